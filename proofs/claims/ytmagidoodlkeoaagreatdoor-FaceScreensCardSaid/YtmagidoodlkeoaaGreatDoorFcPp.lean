/-
  The reference's Paint.
-/
import Derived.Test.YtmagidoodlkeoaaGreatDoorFcPk
import Derived.Test.YtmagidoodlkeoaaGreatDoorFcLw
set_option linter.unusedSimpArgs false
set_option linter.unusedVariables false
namespace Go.Proofs.YtmagidoodlkeoaaGreatDoor
open Go.RowKit

theorem own_some {w : World} {base e : Nat} {v : Value} {L : List Int} (h : w.ownsRow base e 1 v L.length (ints L)) (hl : 0 < L.length) : ∃ g cap, v = .slice (some ⟨g, 0, none⟩) L.length cap := by
  rcases h.2 with ⟨-, h0⟩ | ⟨g, cap, cur, hv, -⟩
  · omega
  · exact ⟨g, cap, hv⟩
theorem PI.mid {f : Fc} {w1 wr w3 : World} {dv ov v : Value} {L O : List Int} (h : PI f w1 wr dv ov L O) (hg : wr.grownBy w3 v.ownBlock) (hv : ∀ q, v.ownBlock = some q → w1.heap.size + 1 ≤ q) :
    w3.heap[w1.heap.size]? = some (.cells #[.int .i64 f.size, .int .i64 (heiF f), dv, ov] 36 (0, 0)) :=
  (hg.block _ h.lt (fun e => by have := hv _ e.symm; omega)).trans h.blk
theorem rd_row {w : World} {base e n g cap : Nat} {L : List Int} (h : w.ownsRow base e 1 (.slice (some ⟨g, 0, none⟩) n cap) n (ints L)) {R : Nat} (hR : R < base) (us : Array Value) : Rd (w.setRow R us) (some ⟨g, 0, none⟩) (ints L) := by
  obtain ⟨A, c, hv, hr, -⟩ := own_slice h
  injection hv with e1 e2 e3
  subst e1
  have hg := (own_lt h (g := g) rfl).1
  intro hx
  obtain ⟨b, off, hA, hb, hc⟩ := hr hx
  injection hA with hA
  injection hA with h1 h2
  subst h1 h2
  refine ⟨g, 0, rfl, by simpa using hb, fun j u hu => ?_⟩
  rw [cell_setRow_other _ _ _ _ (by dsimp only; omega)]
  exact hc j u hu

set_option maxHeartbeats 8000000 in
set_option maxRecDepth 100000 in
theorem paint_calls (f : Fc) (A : Option Addr) (c : Nat) (w : World) (hit : ItsOk w A f.items) (hf : fcB f = true) :
    Calls Tryz.prog 27 #[.agg #[.int .i64 f.shape, .int .i64 f.size, .int .i64 f.height, .slice A f.items.length c]] w fun e w' => Below w.heap.size w w' ∧ ∃ (A1 A2 : Option Addr) (c1 c2 : Nat), e = .returned (.agg #[.int .i64 f.size, .int .i64 (heiF f), .slice A1 (numD f) c1, .slice A2 (numD f) c2]) ∧ Rd w' A1 (ints (dotL f f.items.length)) ∧ Rd w' A2 (ints (ownL f f.items.length)) := by
  obtain ⟨s0, s1⟩ := size_bounds hf
  obtain ⟨h0, h1⟩ := heiF_bounds hf
  obtain ⟨n0, n1⟩ := numD_bounds hf
  have hn := hit.n
  have HV := hid (items_valid hf)
  have HFF := hid hf
  obtain ⟨i0, hi, hz0, hz1, hz2⟩ := info_partsd info_i64d
  obtain ⟨sz, hsz⟩ : ∃ sz : Nat, sz = f.size.toNat := ⟨_, rfl⟩
  obtain ⟨hh, hhh⟩ : ∃ hh : Nat, hh = (heiF f).toNat := ⟨_, rfl⟩
  have hsz0 : 4 ≤ sz ∧ sz ≤ 200 := by omega
  have hhh0 : 1 ≤ hh ∧ hh ≤ 200 := by omega
  have HSZ := hid (show (sz : Int) = f.size by omega)
  have HHH := hid (show (hh : Int) = heiF f by omega)
  have HSN := hid hsz
  have HHN := hid hhh
  have HND := hid (show numD f = hh * sz by unfold numD; rw [hsz, hhh]; exact Nat.mul_comm _ _)
  have HF := hid ((FaceAt.new w c hit).below (below_alloc _ (.cells #[.int .i64 0, .int .i64 0, .slice none 0 0, .slice none 0 0] 36)))
  have hRn : ((w.alloc (.cells #[.int .i64 f.shape, .int .i64 f.size, .int .i64 f.height, .slice A f.items.length c] 25)).alloc (.cells #[.int .i64 0, .int .i64 0, .slice none 0 0, .slice none 0 0] 36)).heap[w.heap.size + 1]? = some (.cells #[.int .i64 0, .int .i64 0, .slice none 0 0, .slice none 0 0] 36 (0, 0)) := by
    have h := heap_alloc_new (w.alloc (.cells #[.int .i64 f.shape, .int .i64 f.size, .int .i64 f.height, .slice A f.items.length c] 25)) (.cells #[.int .i64 0, .int .i64 0, .slice none 0 0, .slice none 0 0] 36)
    simpa using h
  have HR := hid hRn
  have HB := hid (below_alloc' (below_alloc w (.cells #[.int .i64 f.shape, .int .i64 f.size, .int .i64 f.height, .slice A f.items.length c] 25)) (.cells #[.int .i64 0, .int .i64 0, .slice none 0 0, .slice none 0 0] 36))
  clear hit hf hsz hhh hRn
  go_enter Tryz.func27, Tryz.ntmps27
  go_wp2_with fail
  generalize (w.alloc (.cells #[.int .i64 f.shape, .int .i64 f.size, .int .i64 f.height, .slice A f.items.length c] 25)).alloc (.cells #[.int .i64 0, .int .i64 0, .slice none 0 0, .slice none 0 0] 36) = W at *
  refine (rextent_calls f A c W (by omega) (by omega)).mono ?_
  rintro e w1 ⟨rfl, hb1⟩
  have HF := hid ((unhid HF).below hb1)
  have hRl := (Array.getElem?_eq_some_iff.1 (unhid HR)).1
  have HR := hid ((hb1.block _ hRl).trans (unhid HR))
  have HB := hid ((unhid HB).trans (hb1.mono (unhid HB).size))
  have hR1 : w.heap.size + 1 < w1.heap.size := Nat.lt_of_lt_of_le hRl hb1.size
  clear hb1 hRl
  have HP0 := hid (PI.start f w1)
  go_upto_region 3 with (fail)
  generalize w1.alloc (.cells #[.int .i64 f.size, .int .i64 (heiF f), .slice none 0 0, .slice none 0 0] 36) = W2 at *
  obtain ⟨B, hBB⟩ : ∃ B, B = w.heap.size := ⟨_, rfl⟩
  rw [← hBB] at HF HR hR1 ⊢
  have HBB := hid hBB
  clear hBB
  go_wp2_with fail
  go_loopw [6] (fun jv wr => ∃ (j : Nat) (dv ov : Value), j ≤ hh ∧ jv = .int .i64 j ∧ PI f w1 wr dv ov ((List.range (j * sz)).map (dotK f 0)) ((List.range (j * sz)).map (ownN f 0))) (fun jv _ => hh - (intOf jv).toNat)
  case atStart => exact ⟨0, _, _, Nat.zero_le _, rfl, by rw [Nat.zero_mul]; exact unhid HP0⟩
  case round =>
    obtain ⟨j, dv, ov, hj, rfl, hpi⟩ := hrel
    have HPI := hid hpi
    clear hpi
    by_cases hjl : j < hh
    · have hjh : (j : Int) < heiF f := by have := unhid HHH; omega
      go_wp2_with fail
      go_loopw [7] (fun iv wr => ∃ (i : Nat) (dv ov : Value), i ≤ sz ∧ iv = .int .i64 i ∧ PI f w1 wr dv ov ((List.range (j * sz + i)).map (dotK f 0)) ((List.range (j * sz + i)).map (ownN f 0))) (fun iv _ => sz - (intOf iv).toNat)
      case atStart => exact ⟨0, dv, ov, Nat.zero_le _, rfl, unhid HPI⟩
      case round =>
        obtain ⟨i, dv, ov, hi', rfl, hpi⟩ := hrel
        have HPI := hid hpi
        clear hpi
        by_cases hil : i < sz
        · have hif : (i : Int) < f.size := by have := unhid HSZ; omega
          have HFr := hid ((unhid HF).below (unhid HPI).bel)
          obtain ⟨c0, c1, c2, c3⟩ := (unhid HFr).cells
          have hmm : j * sz + i ≤ 40000 := by
            have h1 : j * sz ≤ 200 * 200 := Nat.mul_le_mul (by omega) (by omega)
            have h2 : (j + 1) * sz ≤ 200 * 200 := Nat.mul_le_mul (by omega) (by omega)
            rw [Nat.add_mul] at h2
            omega
          have HSD := hid (range_snoc (dotK f 0) (j * sz + i))
          have HSO := hid (range_snoc (ownN f 0) (j * sz + i))
          have hLl : ((List.range (j * sz + i)).map (dotK f 0)).length ≤ 40000 := by simp; omega
          have hOl : ((List.range (j * sz + i)).map (ownN f 0)).length ≤ 40000 := by simp; omega
          generalize hLL : (List.range (j * sz + i)).map (dotK f 0) = L at *
          generalize hOO : (List.range (j * sz + i)).map (ownN f 0) = O at *
          have HLL := hid (And.intro hLL hOO)
          clear hLL hOO
          have hpx := pix_at (f := f) (i := i) (j := j) (by rw [← unhid HSN]; exact hil) (by rw [← unhid HHN]; exact hjl)
          rw [← unhid HSN] at hpx
          have HOV := hid (show ownN f 0 (j * sz + i) = -1 by unfold ownN; exact ownK_zero _ _ _)
          have HDV := hid (show dotK f 0 (j * sz + i) = if partB f (2 * (i : Int) + 1 - f.size) (2 * (j : Int) + 1 - heiF f) then 9 else 0 by
            unfold dotK
            rw [← unhid HSN, hpx.2.1, hpx.2.2]
            exact colK_zero _ _ _)
          clear hpx
          go_wp2_with fail
          refine (rpart_calls f A c (2 * (i : Int) + 1 - f.size) (2 * (j : Int) + 1 - heiF f) wr (unhid HFF) (by omega) (by omega)).mono ?_
          rintro e w3 ⟨rfl, hb3⟩
          have HP3 := hid ((unhid HPI).after hb3)
          clear hb3 c0 c1 c2 c3
          obtain ⟨p2, p3, f2, f3⟩ := (unhid HP3).cells
          obtain ⟨cv, hcv⟩ : ∃ cv : Int, cv = if partB f (2 * (i : Int) + 1 - f.size) (2 * (j : Int) + 1 - heiF f) then 9 else 0 := ⟨_, rfl⟩
          rw [← hcv] at HDV
          have HCV := hid hcv
          clear hcv
          go_upto_if 40 with (fail)
          go_cut [8] from 29 to 40 (fun s8 wz => s8 = .int .i64 cv ∧ wz = w3)
          case first =>
            have hcv := unhid HCV
            cases hp : partB f (2 * (i : Int) + 1 - f.size) (2 * (j : Int) + 1 - heiF f) with
            | true =>
              rw [hp, if_pos rfl] at hcv
              subst hcv
              go_wp2_with fail
              go_meet
              case rel => exact ⟨rfl, rfl⟩
            | false =>
              rw [hp, if_neg (by simp)] at hcv
              subst hcv
              go_wp2_with fail
              go_meet
              case rel => exact ⟨rfl, rfl⟩
          case rest =>
            obtain ⟨rfl, rfl⟩ := hcut
            go_wp2_with (at_builtin; refine wpList_append_lies _ rfl _ _ 34 rfl (w1.heap.size + 1) 3 i0 (.int .i64 0) 1 8 Tryz.underlying34 hi hz0 hz1 hz2 rfl (by decide) dv L.length (ints L) rfl ?a1 ⟨wc.heap.size, 0, none⟩ 1 1 [.int .i64 cv] rfl rfl ?a2 ?a3 (by omega) ?a4 ?a5 ?a6 (wc.heap.size + 1) ?a7 ?_)
            case a1 => exact ((unhid HP3).after (below_alloc _ _)).od
            case a2 => exact World.news_of_block (cs := #[.int .i64 cv]) (t := 3) (fr := (0, 0)) (by simpa using heap_alloc_new wc (.cells #[.int .i64 cv] 3))
            case a3 => simp [Value.oneCell']
            case a4 => unfold maxLen; omega
            case a5 => omega
            case a6 => have := (unhid HP3).lt; simp; omega
            case a7 => simp
            intro g3 cap3 w4 hown hg hat hlt3
            have hmid := ((unhid HP3).after (below_alloc wc (.cells #[.int .i64 cv] 3))).mid hg (fun q hq => (own_lt (unhid HP3).od hq).1)
            have HP4 := hid (((unhid HP3).after (below_alloc wc (.cells #[.int .i64 cv] 3))).pushD (by exact hown) hg (by simpa using hat))
            have k2 := cell_of_row w4 w1.heap.size 2 _ _ _ hmid
            have l2 : w4.frozen? ⟨w1.heap.size, 2, none⟩ = false := by simp [World.frozen?, hmid]
            simp at k2
            clear hmid hown hg hat hlt3 p2 p3 f2 f3
            go_upto_region 13 with (fail)
            generalize w4.setCell ⟨w1.heap.size, 2, none⟩ (.slice (some ⟨g3, 0, none⟩) (L.length + 1) cap3) = W5 at *
            clear k2 l2
            obtain ⟨p2, p3, f2, f3⟩ := (unhid HP4).cells
            go_wp2_with (at_builtin; refine wpList_append_lies _ rfl _ _ 34 rfl (w1.heap.size + 1) 3 i0 (.int .i64 0) 1 8 Tryz.underlying34 hi hz0 hz1 hz2 rfl (by decide) ov O.length (ints O) rfl ?a1 ⟨W5.heap.size, 0, none⟩ 1 1 [.int .i64 (-1)] rfl rfl ?a2 ?a3 (by omega) ?a4 ?a5 ?a6 (W5.heap.size + 1) ?a7 ?_)
            case a1 => exact ((unhid HP4).after (below_alloc _ _)).oo
            case a2 => exact World.news_of_block (cs := #[.int .i64 (-1)]) (t := 3) (fr := (0, 0)) (by simpa using heap_alloc_new W5 (.cells #[.int .i64 (-1)] 3))
            case a3 => simp [Value.oneCell']
            case a4 => unfold maxLen; omega
            case a5 => omega
            case a6 => have := (unhid HP4).lt; simp; omega
            case a7 => simp
            intro g4 cap4 w6 hown hg hat hlt3
            have hmid := ((unhid HP4).after (below_alloc W5 (.cells #[.int .i64 (-1)] 3))).mid hg (fun q hq => (own_lt (unhid HP4).oo hq).1)
            have HP6 := hid (((unhid HP4).after (below_alloc W5 (.cells #[.int .i64 (-1)] 3))).pushO (by exact hown) hg (by simpa using hat))
            have k2 := cell_of_row w6 w1.heap.size 3 _ _ _ hmid
            have l2 : w6.frozen? ⟨w1.heap.size, 3, none⟩ = false := by simp [World.frozen?, hmid]
            simp at k2
            clear hmid hown hg hat hlt3 p2 p3 f2 f3
            go_wp2_with fail
            go_roundw
            case rel =>
              refine ⟨i + 1, .slice (some ⟨g3, 0, none⟩) (L.length + 1) cap3, .slice (some ⟨g4, 0, none⟩) (O.length + 1) cap4, by omega, by go_num, ?_⟩
              rw [← Nat.add_assoc, unhid HSD, unhid HSO, unhid HDV, unhid HOV]
              exact unhid HP6
            case measure => simp [intOf]; omega
        · obtain rfl : i = sz := by omega
          have hif : ¬ (i : Int) < f.size := by have := unhid HSZ; omega
          go_wp2_with fail
          go_roundw
          case rel => exact ⟨j + 1, dv, ov, by omega, by go_num, by rw [Nat.add_mul, Nat.one_mul]; exact unhid HPI⟩
          case measure => simp [intOf]; omega
    · obtain rfl : j = hh := by omega
      have hpi := unhid HPI
      rw [← unhid HND] at hpi
      obtain ⟨gd, cd, rfl⟩ := own_some hpi.od (by simp; omega)
      obtain ⟨go, co, rfl⟩ := own_some hpi.oo (by simp; omega)
      simp only [List.length_map, List.length_range] at hpi
      obtain ⟨N, hN⟩ : ∃ N, N = numD f := ⟨_, rfl⟩
      rw [← hN] at hpi n0 n1
      have HN := hid hN
      have HPI := hid hpi
      have hjn : ¬ (j : Int) < heiF f := by have := unhid HHH; omega
      clear hN hpi
      go_wp2_with fail
      go_loopw [9] (fun kv wr => ∃ k : Nat, k ≤ f.items.length ∧ kv = .int .i64 k ∧ PI f w1 wr (.slice (some ⟨gd, 0, none⟩) N cd) (.slice (some ⟨go, 0, none⟩) N co) ((List.range N).map (dotK f k)) ((List.range N).map (ownN f k))) (fun kv _ => f.items.length - (intOf kv).toNat)
      case atStart => exact ⟨0, Nat.zero_le _, rfl, unhid HPI⟩
      case round =>
        obtain ⟨k, hk, rfl, hpi⟩ := hrel
        have HPI := hid hpi
        clear hpi
        have HFr := hid ((unhid HF).below (unhid HPI).bel)
        obtain ⟨c0, c1, c2, c3⟩ := (unhid HFr).cells
        by_cases hkl : k < f.items.length
        · have hxv := (unhid HV) f.items[k] (List.getElem_mem hkl)
          have HXV := hid hxv
          clear hxv
          go_wp2_with fail
          clear c0 c1 c2 c3
          go_loopw [10] (fun nv wr => ∃ n : Nat, n ≤ N ∧ nv = .int .i64 n ∧ PI f w1 wr (.slice (some ⟨gd, 0, none⟩) N cd) (.slice (some ⟨go, 0, none⟩) N co) (mixL N (dotK f) k n) (mixL N (ownN f) k n)) (fun nv _ => N - (intOf nv).toNat)
          case atStart => exact ⟨0, Nat.zero_le _, rfl, by rw [mixL_zero, mixL_zero]; exact unhid HPI⟩
          case round =>
            obtain ⟨n, hn', rfl, hpi⟩ := hrel
            have HPI := hid hpi
            obtain ⟨p2, p3, f2, f3⟩ := hpi.cells
            by_cases hnl : n < N
            · have m0 : wr.cell? ⟨gd, n, none⟩ = some (.int .i64 (dotK f k n)) := own_cell (n := N) (cap := cd) (L := mixL N (dotK f) k n) (by have h := hpi.od; rwa [mixL_len] at h) (mixL_at N (dotK f) k n hnl)
              have m1 : wr.cell? ⟨go, n, none⟩ = some (.int .i64 (ownN f k n)) := own_cell (n := N) (cap := co) (L := mixL N (ownN f) k n) (by have h := hpi.oo; rwa [mixL_len] at h) (mixL_at N (ownN f) k n hnl)
              have q0 : wr.frozen? ⟨gd, n, none⟩ = false := own_free (n := N) (cap := cd) (size := 1) (by have h := hpi.od; rwa [mixL_len] at h) n
              have q1 : wr.frozen? ⟨go, n, none⟩ = false := own_free (n := N) (cap := co) (size := 1) (by have h := hpi.oo; rwa [mixL_len] at h) n
              have HF2 := hid ((unhid HF).below hpi.bel)
              obtain ⟨b, off, hAb, hb, hc⟩ := (unhid HF2).ok.rd (its_ne hkl)
              obtain ⟨d0, d1, d2, d3, d4, d5, d6⟩ := its_cells hc hkl
              obtain ⟨c0, c1, c2, c3⟩ := (unhid HF2).cells
              have hgdl := (own_lt hpi.od (g := gd) rfl).2
              have hgol := (own_lt hpi.oo (g := go) rfl).2
              have hplt := hpi.lt
              have hBw := (unhid HF2).lt
              clear hc hpi
              obtain ⟨x, hx⟩ : ∃ x, x = f.items[k] := ⟨_, rfl⟩
              rw [← hx] at d0 d1 d2 d3 d4 d5 d6 HXV
              have HX := hid hx
              clear hx
              rw [hAb] at c3
              clear hAb
              obtain ⟨hx1, hx2⟩ := pix_in (f := f) (n := n) (by rw [← unhid HN]; exact hnl)
              rw [← unhid HSN] at hx1 hx2
              rw [← unhid HHN] at hx2
              obtain ⟨i, hie⟩ : ∃ i, i = n % sz := ⟨_, rfl⟩
              obtain ⟨jj, hje⟩ : ∃ jj, jj = n / sz := ⟨_, rfl⟩
              rw [← hie] at hx1
              rw [← hje] at hx2
              have et1 : (n : Int).tmod f.size = (i : Int) := by
                rw [← unhid HSZ, Int.tmod_eq_emod_of_nonneg (by omega), hie]; rfl
              have et2 : (n : Int).tdiv f.size = (jj : Int) := by
                rw [← unhid HSZ, Int.tdiv_eq_ediv_of_nonneg (by omega), hje]; rfl
              have hi1 : (i : Int) < f.size := by have := unhid HSZ; omega
              have hj1 : (jj : Int) < heiF f := by have := unhid HHH; omega
              have hD : ∀ m, dotK f m n = colK f i jj m := fun m => by unfold dotK; rw [← unhid HSN, ← hie, ← hje]
              have hO : ∀ m, ownN f m n = ownK f i jj m := fun m => by unfold ownN; rw [← unhid HSN, ← hie, ← hje]
              have HPT := hid (colK_part (unhid HFF) (i : Int) (jj : Int) k)
              have HET := hid (And.intro et1 et2)
              have hw1 := w64 (n := (i : Int)) (by omega) (by omega)
              have hw2 := w64 (n := (jj : Int)) (by omega) (by omega)
              have hzf : (f.size = 0) = False := by rw [eq_iff_iff]; exact ⟨fun h => by omega, False.elim⟩
              have HD := hid hD
              have HO := hid hO
              clear et1 et2 hie hje hD hO
              obtain ⟨d, hd⟩ : ∃ d, d = dotK f k n := ⟨_, rfl⟩
              rw [← hd] at m0
              have HDD := hid hd
              clear hd
              by_cases hdz : d = 0
              · have hpf : partB f (2 * (i : Int) + 1 - f.size) (2 * (jj : Int) + 1 - heiF f) = false := by
                  rcases unhid HPT with ⟨-, h⟩ | ⟨h1, -, -⟩
                  · exact h
                  · have := unhid HDD; rw [unhid HD] at this; omega
                obtain ⟨e1, e2⟩ := pix_out (i : Int) (jj : Int) k (k + 1) hpf
                have HS1 := hid (mixL_same N (dotK f) k n (by rw [unhid HD, unhid HD]; exact e1))
                have HS2 := hid (mixL_same N (ownN f) k n (by rw [unhid HO, unhid HO]; exact e2))
                have hdb : (d != 0) = false := by simp [hdz]
                clear e1 e2 hpf hdz
                go_wp2_with fail
                go_quiet (fail)
                go_wp2_with fail
                go_roundw
                case rel => exact ⟨n + 1, by omega, by go_num, by rw [unhid HS1, unhid HS2]; exact (unhid HPI).after (below_drewN' (Below.refl _ _) _)⟩
                case measure => simp [intOf]; omega
              · have hpt : partB f (2 * (i : Int) + 1 - f.size) (2 * (jj : Int) + 1 - heiF f) = true := by
                  rcases unhid HPT with ⟨h, -⟩ | ⟨-, -, h⟩
                  · have := unhid HDD; rw [unhid HD] at this; omega
                  · exact h
                have hdb : (d != 0) = true := by simp [hdz]
                have HPTT := hid hpt
                have HCP := hid (fun (q : World) => rpaints_calls f (some ⟨b, off, none⟩) c x (i : Int) (jj : Int) q (unhid HFF) ⟨Int.natCast_nonneg _, hi1⟩ ⟨Int.natCast_nonneg _, hj1⟩ (unhid HXV))
                have HHIT := hid (show paintB f x i jj = true → colK f i jj (k + 1) = x.colour ∧ ownK f i jj (k + 1) = k from fun h => by
                  have h2 := pix_hit (f := f) (i := (i : Int)) (j := (jj : Int)) hkl hpt (by rw [← unhid HX]; exact h)
                  rwa [← unhid HX] at h2)
                have HMISS := hid (show paintB f x i jj = false → colK f i jj (k + 1) = colK f i jj k ∧ ownK f i jj (k + 1) = ownK f i jj k from fun h => pix_miss (f := f) (i := (i : Int)) (j := (jj : Int)) hkl (by rw [← unhid HX]; exact h))
                clear hpt hdz
                obtain ⟨pt, hpb⟩ : ∃ pt, pt = paintB f x i jj := ⟨_, rfl⟩
                rw [← hpb] at HCP
                have HPB := hid hpb
                clear hpb
                have r0 := fun p : After wr => After.cell (a := ⟨B, 0, none⟩) hBw c0 p
                have r1 := fun p : After wr => After.cell (a := ⟨B, 1, none⟩) hBw c1 p
                have r2 := fun p : After wr => After.cell (a := ⟨B, 2, none⟩) hBw c2 p
                have r3 := fun p : After wr => After.cell (a := ⟨B, 3, none⟩) hBw c3 p
                have r4 := fun p : After wr => After.cell (a := ⟨w1.heap.size, 2, none⟩) hplt p2 p
                have r5 := fun p : After wr => After.cell (a := ⟨gd, n, none⟩) hgdl m0 p
                have u0 := fun p : After wr => After.cell (a := ⟨b, off + k * 7, none⟩) hb d0 p
                have u1 := fun p : After wr => After.cell (a := ⟨b, off + k * 7 + 1, none⟩) hb d1 p
                have u2 := fun p : After wr => After.cell (a := ⟨b, off + k * 7 + 2, none⟩) hb d2 p
                have u3 := fun p : After wr => After.cell (a := ⟨b, off + k * 7 + 3, none⟩) hb d3 p
                have u4 := fun p : After wr => After.cell (a := ⟨b, off + k * 7 + 4, none⟩) hb d4 p
                have u5 := fun p : After wr => After.cell (a := ⟨b, off + k * 7 + 5, none⟩) hb d5 p
                have u6 := fun p : After wr => After.cell (a := ⟨b, off + k * 7 + 6, none⟩) hb d6 p
                go_wp2_with fail
                obtain ⟨et1, et2⟩ := unhid HET
                obtain ⟨y1, y1'⟩ := hw1
                obtain ⟨y2, y2'⟩ := hw2
                refine wp_region_below (by kernel_rfl) (by kernel_rfl) ?_
                (repeat (go_big_quiet_step (first | (go_at_call 76; exact Calls.after_of ((unhid HCP) _)))))
                refine wpQuiet_nil ?_
                intro wq hw'
                obtain ⟨⟨wq2, hbq⟩, hw''⟩ := hw'
                dsimp only at hw''
                subst hw''
                have HPQ := hid ((unhid HPI).after hbq)
                clear r0 r1 r2 r3 r4 r5 u0 u1 u2 u3 u4 u5 u6 et1 et2 y1 y1' y2 y2'
                cases pt with
                | false =>
                  obtain ⟨e1, e2⟩ := (unhid HMISS) (unhid HPB).symm
                  have HS1 := hid (mixL_same N (dotK f) k n (by rw [unhid HD, unhid HD]; exact e1))
                  have HS2 := hid (mixL_same N (ownN f) k n (by rw [unhid HO, unhid HO]; exact e2))
                  clear e1 e2
                  go_wp2_with fail
                  go_roundw
                  case rel => exact ⟨n + 1, by omega, by go_num, by rw [unhid HS1, unhid HS2]; exact unhid HPQ⟩
                  case measure => simp [intOf]; omega
                | true =>
                  obtain ⟨e1, e2⟩ := (unhid HHIT) (unhid HPB).symm
                  have HS1 := hid (show mixL N (dotK f) k (n + 1) = (mixL N (dotK f) k n).set n x.colour by rw [mixL_set, unhid HD, e1])
                  have HS2 := hid (show mixL N (ownN f) k (n + 1) = (mixL N (ownN f) k n).set n (k : Int) by rw [mixL_set, unhid HO, e2])
                  clear e1 e2
                  have v0 := (hbq.cell (p := ⟨w1.heap.size, 2, none⟩) hplt).trans p2
                  have v1 := (hbq.cell (p := ⟨B, 3, none⟩) hBw).trans c3
                  have v2 := (hbq.cell (p := ⟨b, off + k * 7 + 1, none⟩) hb).trans d1
                  have v3 := (hbq.cell (p := ⟨gd, n, none⟩) hgdl).trans m0
                  have v4 := (hbq.cell (p := ⟨w1.heap.size, 3, none⟩) hplt).trans p3
                  have v5 := (hbq.cell (p := ⟨go, n, none⟩) hgol).trans m1
                  have v6 : wq.frozen? ⟨gd, n, none⟩ = false := by rw [World.frozen?_of_block (w := wr) (hbq.block gd hgdl)]; exact q0
                  have v7 : wq.frozen? ⟨go, n, none⟩ = false := by rw [World.frozen?_of_block (w := wr) (hbq.block go hgol)]; exact q1
                  have hgne : go ≠ gd := fun e => (unhid HPQ).ne gd rfl (by rw [e]; rfl)
                  have hgp : w1.heap.size < gd ∧ w1.heap.size < go := ⟨(own_lt (unhid HPQ).od (g := gd) rfl).1, (own_lt (unhid HPQ).oo (g := go) rfl).1⟩
                  clear hbq p2 p3 f2 f3 c0 c1 c2 c3 d0 d1 d2 d3 d4 d5 d6 m0 m1 q0 q1
                  go_wp2_with fail
                  refine wp_region_noPanic ?_
                  refine wp_region_E (S := fun w' => w'.cell? ⟨w1.heap.size, 2, none⟩ = some (.slice (some ⟨gd, 0, none⟩) N cd) ∧ w'.cell? ⟨B, 3, none⟩ = some (.slice (some ⟨b, off, none⟩) f.items.length c) ∧ w'.cell? ⟨b, off + k * 7 + 1, none⟩ = some (.int .i64 x.colour)) 10 11 rfl (by kernel_rfl) (by kernel_rfl) ⟨v0, v1, v2⟩ ?_
                  intro hSE
                  (refine WE_take (i := 0) (v := ?_) rfl (by kernel_rfl) (by decide) (by kernel_rfl) (by kernel_rfl) (fun _ _ _ h => h) (by rfl) hSE ?_ ?_; rotate_left; (focus (intro w hSw; (try dsimp only at hSw); go_simp; (try with_reducible rfl))); simp only [Act.put, List.setIfInBounds_toArray, List.set_cons_zero, List.set_cons_succ])
                  (refine WE_take (i := 1) (v := ?_) rfl (by kernel_rfl) (by decide) (by kernel_rfl) (by kernel_rfl) (fun _ _ _ h => h) (by rfl) hSE ?_ ?_; rotate_left; (focus (intro w hSw; (try dsimp only at hSw); go_simp; (try with_reducible rfl))); simp only [Act.put, List.setIfInBounds_toArray, List.set_cons_zero, List.set_cons_succ])
                  (refine WE_take (i := 2) (v := ?_) rfl (by kernel_rfl) (by decide) (by kernel_rfl) (by kernel_rfl) (fun _ _ _ h => h) (by rfl) hSE ?_ ?_; rotate_left; (focus (intro w hSw; (try dsimp only at hSw); go_simp; (try with_reducible rfl))); simp only [Act.put, List.setIfInBounds_toArray, List.set_cons_zero, List.set_cons_succ])
                  (refine WE_take (i := 3) (v := ?_) rfl (by kernel_rfl) (by decide) (by kernel_rfl) (by kernel_rfl) (fun _ _ _ h => h) (by rfl) hSE ?_ ?_; rotate_left; (focus (intro w hSw; (try dsimp only at hSw); go_simp; (try with_reducible rfl))); simp only [Act.put, List.setIfInBounds_toArray, List.set_cons_zero, List.set_cons_succ])
                  (refine WE_take (i := 4) (v := ?_) rfl (by kernel_rfl) (by decide) (by kernel_rfl) (by kernel_rfl) (fun _ _ _ h => h) (by rfl) hSE ?_ ?_; rotate_left; (focus (intro w hSw; (try dsimp only at hSw); go_simp; (try with_reducible rfl))); simp only [Act.put, List.setIfInBounds_toArray, List.set_cons_zero, List.set_cons_succ])
                  (refine WE_take (i := 5) (v := ?_) rfl (by kernel_rfl) (by decide) (by kernel_rfl) (by kernel_rfl) (fun _ _ _ h => h) (by rfl) hSE ?_ ?_; rotate_left; (focus (intro w hSw; (try dsimp only at hSw); go_simp; (try with_reducible rfl))); simp only [Act.put, List.setIfInBounds_toArray, List.set_cons_zero, List.set_cons_succ])
                  (refine WE_take (i := 6) (v := ?_) rfl (by kernel_rfl) (by decide) (by kernel_rfl) (by kernel_rfl) (fun _ _ _ h => h) (by rfl) hSE ?_ ?_; rotate_left; (focus (intro w hSw; (try dsimp only at hSw); go_simp; (try with_reducible rfl))); simp only [Act.put, List.setIfInBounds_toArray, List.set_cons_zero, List.set_cons_succ])
                  (refine WE_take (i := 7) (v := ?_) rfl (by kernel_rfl) (by decide) (by kernel_rfl) (by kernel_rfl) (fun _ _ _ h => h) (by rfl) hSE ?_ ?_; rotate_left; (focus (intro w hSw; (try dsimp only at hSw); go_simp; (try with_reducible rfl))); simp only [Act.put, List.setIfInBounds_toArray, List.set_cons_zero, List.set_cons_succ])
                  (refine WE_take (i := 8) (v := ?_) rfl (by kernel_rfl) (by decide) (by kernel_rfl) (by kernel_rfl) (fun _ _ _ h => h) (by rfl) hSE ?_ ?_; rotate_left; (focus (intro w hSw; (try dsimp only at hSw); go_simp; (try with_reducible rfl))); simp only [Act.put, List.setIfInBounds_toArray, List.set_cons_zero, List.set_cons_succ])
                  (refine WE_take (i := 9) (v := ?_) rfl (by kernel_rfl) (by decide) (by kernel_rfl) (by kernel_rfl) (fun _ _ _ h => h) (by rfl) hSE ?_ ?_; rotate_left; (focus (intro w hSw; (try dsimp only at hSw); go_simp; (try with_reducible rfl))); simp only [Act.put, List.setIfInBounds_toArray, List.set_cons_zero, List.set_cons_succ])
                  (refine WE_last rfl (by kernel_rfl) (by kernel_rfl) (by kernel_rfl) ?_; intro K hK; go_simp; refine hK.out _ _ (NoPanic.normal ?_); clear hK K)
                  have HPS := hid ((PI.setD (g := gd) (n := 0) (cap := cd) (L := mixL N (dotK f) k n) (by have h := unhid HPQ; rw [mixL_len]; exact h) n x.colour).after (Below.drew (Below.refl _ _)))
                  have z4 : ((wq.setCell ⟨gd, n, none⟩ (.int .i64 x.colour)).drew).cell? ⟨w1.heap.size, 3, none⟩ = some (.slice (some ⟨go, 0, none⟩) N co) := by
                    rw [World.cell?_drew, World.cell?_of_block (w := wq) (heap_setCell_other _ _ _ _ (by dsimp only; omega))]; exact v4
                  have z5 : ((wq.setCell ⟨gd, n, none⟩ (.int .i64 x.colour)).drew).cell? ⟨go, n, none⟩ = some (.int .i64 (ownN f k n)) := by
                    rw [World.cell?_drew, World.cell?_of_block (w := wq) (heap_setCell_other _ _ _ _ (by dsimp only; omega))]; exact v5
                  have z7 : ((wq.setCell ⟨gd, n, none⟩ (.int .i64 x.colour)).drew).frozen? ⟨go, n, none⟩ = false := by
                    have h : ((wq.setCell ⟨gd, n, none⟩ (.int .i64 x.colour)).drew).frozen? ⟨go, n, none⟩ = wq.frozen? ⟨go, n, none⟩ := World.frozen?_of_block (heap_setCell_other _ _ _ _ (by dsimp only; omega))
                    rw [h]; exact v7
                  generalize (wq.setCell ⟨gd, n, none⟩ (.int .i64 x.colour)).drew = W6 at *
                  clear v0 v1 v2 v3 v4 v5 v6 v7
                  go_wp2_with fail
                  go_roundw
                  case rel =>
                    refine ⟨n + 1, by omega, by go_num, ?_⟩
                    rw [unhid HS1, unhid HS2]
                    have h := PI.setO (g := go) (n := 0) (cap := co) (O := mixL N (ownN f) k n) (by have h := unhid HPS; rw [mixL_len] at h ⊢; exact h) n (k : Int)
                    rwa [mixL_len] at h
                  case measure => simp [intOf]; omega
            · obtain rfl : n = N := by omega
              have hpi2 := unhid HPI
              rw [mixL_all, mixL_all] at hpi2
              have HPI2 := hid hpi2
              clear hpi hpi2
              go_wp2_with fail
              go_roundw
              case rel => exact ⟨k + 1, by omega, by go_num, unhid HPI2⟩
              case measure => simp [intOf]; omega
        · obtain rfl : k = f.items.length := by omega
          have hkk : ¬ (f.items.length : Int) < f.items.length := by omega
          have HR9 := hid (((unhid HPI).bel.block _ hR1).trans (unhid HR))
          have hpc := (unhid HPI).blk
          have p0 := cell_of_row _ w1.heap.size 0 _ _ _ hpc
          have p1 := cell_of_row _ w1.heap.size 1 _ _ _ hpc
          have p2 := cell_of_row _ w1.heap.size 2 _ _ _ hpc
          have p3 := cell_of_row _ w1.heap.size 3 _ _ _ hpc
          simp at p0 p1 p2 p3
          clear hpc
          go_wp2_with (refine wpList_store_row rfl 36 (.tmp 2) (.tmp 102) rfl (B + 1) #[.int .i64 f.size, .int .i64 (heiF f), .slice (some ⟨gd, 0, none⟩) N cd, .slice (some ⟨go, 0, none⟩) N co] rfl rfl 36 _ (unhid HR9) (pi_size _ _ _ _) rfl (pi_one _ _ _ _ _ _ _ _) ?_)
          (try simp only [Exit.inBlock, Exit.then])
          refine bodyPost_ret_by (v := .agg #[.int .i64 f.size, .int .i64 (heiF f), .slice (some ⟨gd, 0, none⟩) N cd, .slice (some ⟨go, 0, none⟩) N co]) (results_cell_row Tryz.results27 _ _ (B + 1) 36 #[.int .i64 f.size, .int .i64 (heiF f), .slice (some ⟨gd, 0, none⟩) N cd, .slice (some ⟨go, 0, none⟩) N co] (0, 0) _ rfl (setRow_heap _ _ _ _ _ _ (unhid HR9)) Tryz.underlying36 rfl (pi_size _ _ _ _)) rfl ?_
          have hpi := unhid HPI
          refine ⟨below_setRow ((unhid HB).trans (hpi.bel.mono (unhid HB).size)) (by have := unhid HBB; omega) _, some ⟨gd, 0, none⟩, some ⟨go, 0, none⟩, ⟨cd, co, by rw [← unhid HN]⟩, ?_, ?_⟩
          · have h := hpi.od
            simp only [List.length_map, List.length_range] at h
            have e : dotL f f.items.length = (List.range N).map (dotK f f.items.length) := by unfold dotL; rw [unhid HN]
            rw [e]
            exact rd_row h (by omega) _
          · have h := hpi.oo
            simp only [List.length_map, List.length_range] at h
            have e : ownL f f.items.length = (List.range N).map (ownN f f.items.length) := by unfold ownL; rw [unhid HN]
            rw [e]
            exact rd_row h (by omega) _

end Go.Proofs.YtmagidoodlkeoaaGreatDoor
