/-
  The areas of the colours and the screens, of package face and of the reference; the law FaceScreens.
-/
import Derived.Test.YtmagidoodlkeoaaGreatDoorFcRw
import Derived.DeepKeys
set_option linter.unusedSimpArgs false
set_option linter.unusedVariables false
namespace Go.Proofs.YtmagidoodlkeoaaGreatDoor
open Go.RowKit

def arrN (f : Fc) (n : Nat) : List Int := (List.range 10).map fun (v : Nat) => cntN f (v : Int) n
def areasL (f : Fc) : List Int := (List.range 10).map fun (v : Nat) => areaP f (v : Int)
theorem arrN_len (f : Fc) (n : Nat) : (arrN f n).length = 10 := by simp [arrN]
theorem areasL_len (f : Fc) : (areasL f).length = 10 := by simp [areasL]
theorem arrN_zero (f : Fc) : arrN f 0 = [0, 0, 0, 0, 0, 0, 0, 0, 0, 0] := by simp [arrN, cntN, List.range_succ]
theorem arrN_all {f : Fc} (h : fcB f = true) : arrN f (numD f) = areasL f := by
  obtain ⟨s0, s1⟩ := size_bounds h
  unfold arrN areasL areaP numD
  apply List.map_congr_left
  intro v _
  rw [Nat.mul_comm, cntN_rows f v (by omega)]
theorem cntN_bounds (f : Fc) (v : Int) (n : Nat) : 0 ≤ cntN f v n ∧ cntN f v n ≤ n := by
  induction n with
  | zero => simp [cntN]
  | succ n ih => unfold cntN; split <;> omega
theorem arrN_at (f : Fc) (n : Nat) {v : Nat} (h : v < 10) : (arrN f n)[v]? = some (cntN f (v : Int) n) := by simp [arrN, h]
theorem arrN_succ (f : Fc) (n : Nat) {v : Nat} (h : v < 10) (hv : dotK f f.items.length n = (v : Int)) : arrN f (n + 1) = (arrN f n).set v (cntN f (v : Int) n + 1) := by
  have hc : colI f ((n % f.size.toNat : Nat) : Int) ((n / f.size.toNat : Nat) : Int) = (v : Int) := hv
  have hs : ∀ u : Nat, cntN f (u : Int) (n + 1) = cntN f (u : Int) n + (if (v : Int) = (u : Int) then 1 else 0) := fun u => by rw [cntN, hc]
  apply List.ext_getElem?
  intro u
  rw [List.getElem?_set]
  by_cases e : v = u
  · subst e
    simp [arrN, h, hs]
  · rw [if_neg e]
    by_cases hu : u < 10
    · have : ¬ (v : Int) = (u : Int) := by omega
      simp only [arrN, List.getElem?_map, List.getElem?_range hu, Option.map_some, hs, if_neg this, Int.add_zero]
    · simp [arrN, hu]
theorem dot_bounds {f : Fc} (h : fcB f = true) (n : Nat) : 0 ≤ dotK f f.items.length n ∧ dotK f f.items.length n ≤ 9 := colI_bounds h _ _
theorem rowd_cell {w : World} {g : Nat} {L : List Int} {t : TypeId} (h : w.heap[g]? = some (.cells (ints L).toArray t (0, 0))) {b : Nat} {x : Int} (hb : L[b]? = some x) : w.cell? ⟨g, b, none⟩ = some (.int .i64 x) := by
  rw [cell_of_row _ _ _ _ _ _ h]
  simp [ints, hb]
theorem rowd_free {w : World} {g : Nat} {L : List Int} {t : TypeId} (h : w.heap[g]? = some (.cells (ints L).toArray t (0, 0))) (b : Nat) : w.frozen? ⟨g, b, none⟩ = false := by simp [World.frozen?, h]
theorem rowd_set {w : World} {g : Nat} {L : List Int} {t : TypeId} (h : w.heap[g]? = some (.cells (ints L).toArray t (0, 0))) (b : Nat) (x : Int) : (w.setCell ⟨g, b, none⟩ (.int .i64 x)).heap[g]? = some (.cells (ints (L.set b x)).toArray t (0, 0)) := by
  rw [block_set_same h]
  simp [ints, List.map_set]
theorem arr_size {L : List Int} (h : L.length = 10) : (Tryz.prog.info? 77).map (·.size) = some (ints L).toArray.size := by
  have e : (ints L).toArray.size = 10 := by simp [h]
  rw [e]
  show (Tryz.prog.info? 77).map (·.size) = some 10
  kernel_rfl
theorem arr_one (L : List Int) : (ints L).toArray.all (·.oneCell') = true := by
  simp [ints, Value.oneCell']

set_option maxHeartbeats 4000000 in
set_option maxRecDepth 100000 in
theorem rareas_calls (f : Fc) (A1 A2 : Option Addr) (c1 c2 : Nat) (w : World) (hf : fcB f = true) (hr : Rd w A1 (ints (dotL f f.items.length))) :
    Calls Tryz.prog 56 #[.agg #[.int .i64 f.size, .int .i64 (heiF f), .slice A1 (numD f) c1, .slice A2 (numD f) c2]] w fun e w' => e = .returned (.agg (ints (areasL f)).toArray) ∧ Below w.heap.size w w' := by
  obtain ⟨n0, n1⟩ := numD_bounds hf
  have HALL := hid (arrN_all hf)
  have HDB := hid (fun n => dot_bounds hf n)
  have HR := hid ((hr.below (below_alloc w (.cells #[.int .i64 f.size, .int .i64 (heiF f), .slice A1 (numD f) c1, .slice A2 (numD f) c2] 36))).below (below_alloc _ (.cells #[.int .i64 0, .int .i64 0, .int .i64 0, .int .i64 0, .int .i64 0, .int .i64 0, .int .i64 0, .int .i64 0, .int .i64 0, .int .i64 0] 77)))
  have HB := hid (below_alloc' (below_alloc w (.cells #[.int .i64 f.size, .int .i64 (heiF f), .slice A1 (numD f) c1, .slice A2 (numD f) c2] 36)) (.cells #[.int .i64 0, .int .i64 0, .int .i64 0, .int .i64 0, .int .i64 0, .int .i64 0, .int .i64 0, .int .i64 0, .int .i64 0, .int .i64 0] 77))
  have hp := (below_alloc (w.alloc (.cells #[.int .i64 f.size, .int .i64 (heiF f), .slice A1 (numD f) c1, .slice A2 (numD f) c2] 36)) (.cells #[.int .i64 0, .int .i64 0, .int .i64 0, .int .i64 0, .int .i64 0, .int .i64 0, .int .i64 0, .int .i64 0, .int .i64 0, .int .i64 0] 77)).block w.heap.size (by simp)
  rw [heap_alloc_new w (.cells #[.int .i64 f.size, .int .i64 (heiF f), .slice A1 (numD f) c1, .slice A2 (numD f) c2] 36)] at hp
  have hq := heap_alloc_new (w.alloc (.cells #[.int .i64 f.size, .int .i64 (heiF f), .slice A1 (numD f) c1, .slice A2 (numD f) c2] 36)) (.cells #[.int .i64 0, .int .i64 0, .int .i64 0, .int .i64 0, .int .i64 0, .int .i64 0, .int .i64 0, .int .i64 0, .int .i64 0, .int .i64 0] 77)
  simp only [World.size_alloc] at hq
  have HP := hid hp
  have HQ := hid hq
  have hsz : ((w.alloc (.cells #[.int .i64 f.size, .int .i64 (heiF f), .slice A1 (numD f) c1, .slice A2 (numD f) c2] 36)).alloc (.cells #[.int .i64 0, .int .i64 0, .int .i64 0, .int .i64 0, .int .i64 0, .int .i64 0, .int .i64 0, .int .i64 0, .int .i64 0, .int .i64 0] 77)).heap.size = w.heap.size + 2 := by simp
  clear hf hr hp hq
  go_enter Tryz.func56, Tryz.ntmps56
  go_upto_region 2 with (fail)
  generalize (w.alloc (.cells #[.int .i64 f.size, .int .i64 (heiF f), .slice A1 (numD f) c1, .slice A2 (numD f) c2] 36)).alloc (.cells #[.int .i64 0, .int .i64 0, .int .i64 0, .int .i64 0, .int .i64 0, .int .i64 0, .int .i64 0, .int .i64 0, .int .i64 0, .int .i64 0] 77) = W0 at *
  have e0 : (ints (arrN f 0)).toArray = #[Value.int .i64 0, .int .i64 0, .int .i64 0, .int .i64 0, .int .i64 0, .int .i64 0, .int .i64 0, .int .i64 0, .int .i64 0, .int .i64 0] := by rw [arrN_zero]; rfl
  have hO : (W0.alloc (.cells #[.int .i64 0, .int .i64 0, .int .i64 0, .int .i64 0, .int .i64 0, .int .i64 0, .int .i64 0, .int .i64 0, .int .i64 0, .int .i64 0] 77)).heap[W0.heap.size]? = some (.cells (ints (arrN f 0)).toArray 77 (0, 0)) := by rw [e0]; exact heap_alloc_new W0 _
  have HO := hid hO
  have HBO := hid (below_alloc W0 (.cells #[.int .i64 0, .int .i64 0, .int .i64 0, .int .i64 0, .int .i64 0, .int .i64 0, .int .i64 0, .int .i64 0, .int .i64 0, .int .i64 0] 77))
  clear hO e0
  go_wp2_with fail
  generalize W0.alloc (.cells #[.int .i64 0, .int .i64 0, .int .i64 0, .int .i64 0, .int .i64 0, .int .i64 0, .int .i64 0, .int .i64 0, .int .i64 0, .int .i64 0] 77) = W1 at *
  obtain ⟨B, hBB⟩ : ∃ B, B = w.heap.size := ⟨_, rfl⟩
  have HSZ := hid hsz
  rw [hsz] at HO HBO
  clear hsz
  rw [← hBB] at HP HQ HO HBO HSZ ⊢
  have HBB := hid hBB
  clear hBB
  go_loopw [4] (fun iv wr => ∃ n : Nat, n ≤ numD f ∧ iv = .int .i64 n ∧ wr.heap[B + 2]? = some (.cells (ints (arrN f n)).toArray 77 (0, 0)) ∧ Below (B + 2) W0 wr) (fun iv _ => numD f - (intOf iv).toNat)
  case atStart => exact ⟨0, Nat.zero_le _, rfl, unhid HO, unhid HBO⟩
  case round =>
    obtain ⟨n, hn, rfl, ho, hbel⟩ := hrel
    have HO2 := hid ho
    have HBL := hid hbel
    have hpp := (hbel.block B (by omega)).trans (unhid HP)
    have p2 := cell_of_row _ B 2 _ _ _ hpp
    simp at p2
    clear ho hbel hpp
    by_cases hnl : n < numD f
    · have hlt : n < (dotL f f.items.length).length := by rw [dotL_len]; exact hnl
      have hr2 := (unhid HR).below (show Below W0.heap.size W0 wr by rw [unhid HSZ]; exact unhid HBL)
      obtain ⟨b, off, rfl, hb, hc⟩ := hr2 (ints_ne hlt)
      have m0 := hc n _ (ints_at _ n hlt)
      have hdl : (dotL f f.items.length)[n] = dotK f f.items.length n := by simp [dotL]
      rw [hdl] at m0
      obtain ⟨cv, hcv⟩ := Int.eq_ofNat_of_zero_le ((unhid HDB) n).1
      have hcv9 : cv < 10 := by have := ((unhid HDB) n).2; omega
      rw [hcv] at m0
      have HS := hid (arrN_succ f n hcv9 hcv)
      have m1 := rowd_cell (unhid HO2) (arrN_at f n hcv9)
      have m2 := rowd_free (unhid HO2) cv
      have hcb := cntN_bounds f (cv : Int) n
      clear hc hr2 hdl hcv hlt
      generalize cntN f (cv : Int) n = x at *
      obtain ⟨y0, y0'⟩ := w64 (n := x + 1) (by omega) (by omega)
      have hcv10 : (cv : Int) < 10 := by omega
      go_wp2_with fail
      go_roundw
      case rel => exact ⟨n + 1, by omega, by go_num, by rw [unhid HS]; exact rowd_set (unhid HO2) _ _, Below.setCell (unhid HBL) (Nat.le_refl _) _⟩
      case measure => simp [intOf]; omega
    · obtain rfl : n = numD f := by omega
      have HQ2 := hid (((unhid HBL).block (B + 1) (by omega)).trans (unhid HQ))
      have ho := unhid HO2
      rw [unhid HALL] at ho
      have HO3 := hid ho
      clear ho
      go_wp2_with (first | (refine wpList_load_row rfl 77 (.tmp 3) rfl (B + 2) rfl 77 (ints (areasL f)).toArray (0, 0) _ (unhid HO3) Tryz.underlying77 rfl (arr_size (areasL_len f)) ?_) | (refine wpList_store_row rfl 77 (.tmp 2) (.tmp 21) rfl (B + 1) (ints (areasL f)).toArray rfl rfl 77 _ (unhid HQ2) (arr_size (areasL_len f)) (by simp [areasL_len]) (arr_one _) ?_))
      (try simp only [Exit.inBlock, Exit.then])
      refine bodyPost_ret_by (v := .agg (ints (areasL f)).toArray) (results_cell_row Tryz.results56 _ _ (B + 1) 77 (ints (areasL f)).toArray (0, 0) _ rfl (setRow_heap _ _ _ _ _ _ (unhid HQ2)) Tryz.underlying77 rfl (arr_size (areasL_len f))) rfl ?_
      exact ⟨rfl, below_setRow ((unhid HB).trans ((unhid HBL).mono (by have := unhid HBB; omega))) (by have := unhid HBB; omega) _⟩


theorem screensK_len (f : Fc) : ∀ k, (screensK f k).length ≤ k
  | 0 => Nat.le_refl _
  | k + 1 => by
    have := screensK_len f k
    unfold screensK
    split
    · simp; omega
    · omega
theorem areasL_at (f : Fc) {v : Nat} (h : v < 10) : (areasL f)[v]? = some (areaP f (v : Int)) := by simp [areasL, h]

set_option maxHeartbeats 4000000 in
set_option maxRecDepth 100000 in
theorem rscreens_calls (f : Fc) (A1 A2 : Option Addr) (c1 c2 : Nat) (w : World) (hf : fcB f = true) (hr : Rd w A1 (ints (dotL f f.items.length))) :
    Calls Tryz.prog 57 #[.agg #[.int .i64 f.size, .int .i64 (heiF f), .slice A1 (numD f) c1, .slice A2 (numD f) c2]] w fun e w' => Below w.heap.size w w' ∧ ∃ (A3 : Option Addr) (c3 : Nat), e = .returned (.slice A3 (screensK f 8).length c3) ∧ Rd w' A3 (ints (screensK f 8)) := by
  have HFF := hid hf
  obtain ⟨i0, hi, hz0, hz1, hz2⟩ := info_partsd info_i64d
  have HR := hid (hr.below (below_alloc w (.cells #[.int .i64 f.size, .int .i64 (heiF f), .slice A1 (numD f) c1, .slice A2 (numD f) c2] 36)))
  have HB := hid (below_alloc w (.cells #[.int .i64 f.size, .int .i64 (heiF f), .slice A1 (numD f) c1, .slice A2 (numD f) c2] 36))
  clear hf hr
  go_enter Tryz.func57, Tryz.ntmps57
  go_wp2_with fail
  generalize w.alloc (.cells #[.int .i64 f.size, .int .i64 (heiF f), .slice A1 (numD f) c1, .slice A2 (numD f) c2] 36) = W at *
  refine (rareas_calls f A1 A2 c1 c2 W (unhid HFF) (unhid HR)).mono ?_
  rintro e w1 ⟨rfl, hb1⟩
  have HB1 := hid ((unhid HB).trans (hb1.mono (unhid HB).size))
  clear hb1
  have hz : (w1.alloc (.cells #[.int .i64 0, .int .i64 0, .int .i64 0, .int .i64 0, .int .i64 0, .int .i64 0, .int .i64 0, .int .i64 0, .int .i64 0, .int .i64 0] 77)).heap[w1.heap.size]? = some (.cells #[.int .i64 0, .int .i64 0, .int .i64 0, .int .i64 0, .int .i64 0, .int .i64 0, .int .i64 0, .int .i64 0, .int .i64 0, .int .i64 0] 77 (0, 0)) := heap_alloc_new _ _
  have HZ := hid hz
  have HBA := hid (below_alloc w1 (.cells #[.int .i64 0, .int .i64 0, .int .i64 0, .int .i64 0, .int .i64 0, .int .i64 0, .int .i64 0, .int .i64 0, .int .i64 0, .int .i64 0] 77))
  clear hz
  go_wp2_with (refine wpList_store_row rfl 77 (.tmp 3) (.tmp 7) rfl w1.heap.size (ints (areasL f)).toArray rfl rfl 77 _ (unhid HZ) (arr_size (areasL_len f)) (by simp [areasL_len]) (arr_one _) ?_)
  have HD := hid (setRow_heap _ _ _ (ints (areasL f)).toArray _ _ (unhid HZ))
  have HBW := hid (below_setRow ((unhid HB1).trans ((unhid HBA).mono (unhid HB1).size)) (unhid HB1).size (ints (areasL f)).toArray)
  generalize World.setRow _ w1.heap.size (ints (areasL f)).toArray = Wb at *
  generalize w1.heap.size = D at *
  clear HZ HBA
  go_wp2_with fail
  go_loopw [5, 4] (fun cvv v wr => ∃ q : Nat, 1 ≤ q ∧ q ≤ 9 ∧ cvv = .int .i64 q ∧ wr.ownsRow Wb.heap.size 3 1 v (screensK f (q - 1)).length (ints (screensK f (q - 1))) ∧ Below Wb.heap.size Wb wr) (fun cvv _ _ => 10 - (intOf cvv).toNat)
  case atStart => exact ⟨1, by omega, by omega, rfl, World.ownsRow_nil _ _ _ _, Below.refl _ _⟩
  case round =>
    obtain ⟨q, hq1, hq2, rfl, hown, hbel⟩ := hrel
    have HOWN := hid hown
    have HBEL := hid hbel
    have hd := (hbel.block D (Array.getElem?_eq_some_iff.1 (unhid HD)).1).trans (unhid HD)
    clear hown hbel
    by_cases hq : q < 9
    · have m0 := rowd_cell hd (areasL_at f (v := q) (by omega))
      have HLN := hid (screensK_len f (q - 1))
      have hsl := screensK_len f (q - 1)
      have hq8 : (q : Int) ≤ 8 := by omega
      have hq10 : (q : Int) < 10 := by omega
      obtain ⟨p, hp⟩ : ∃ p, q = p + 1 := ⟨q - 1, by omega⟩
      have HSY := hid (show 0 < areaP f (q : Int) → screensK f (q + 1 - 1) = screensK f (q - 1) ++ [(q : Int)] from fun h => by
        subst hp
        simp only [Nat.add_sub_cancel]
        rw [screensK, if_pos h])
      have HSN := hid (show ¬ 0 < areaP f (q : Int) → screensK f (q + 1 - 1) = screensK f (q - 1) from fun h => by
        subst hp
        simp only [Nat.add_sub_cancel]
        rw [screensK, if_neg h])
      clear hd hp
      generalize areaP f (q : Int) = x at *
      by_cases hx : 0 < x
      · have HS := hid ((unhid HSY) hx)
        go_wp2_with (at_builtin; refine wpList_append_own _ rfl _ _ 34 rfl Wb.heap.size 3 i0 (.int .i64 0) 1 8 Tryz.underlying34 hi hz0 hz1 hz2 rfl (by decide) _ _ _ rfl ((unhid HOWN).alloc _) ⟨wr.heap.size, 0, none⟩ 1 1 [.int .i64 q] rfl rfl (by exact World.news_of_block (cs := #[.int .i64 q]) (t := 3) (fr := (0, 0)) (by simpa using heap_alloc_new wr (.cells #[.int .i64 q] 3))) ?k2 ?k3 ?k4 ?k5 ?_)
        case k2 => first | rfl | (intro u hu; simp at hu; subst hu; rfl)
        case k3 => unfold maxLen; omega
        case k4 => omega
        case k5 => have := (unhid HBEL).size; simp; omega
        intro v' w4 hown4 hg4 _
        have hb4 : Below Wb.heap.size Wb w4 := by
          refine Below.grown ((unhid HBEL).alloc (unhid HBEL).size _) hg4 (by have := (unhid HBEL).size; simp; omega) (fun i hi => ?_)
          rcases Nat.lt_or_ge i Wb.heap.size with h | h
          · exact absurd hi (own_ne (unhid HOWN) (Or.inl h))
          · exact h
        have HO4 := hid hown4
        clear hown4 hg4
        go_wp2_with fail
        go_roundw
        case rel => exact ⟨q + 1, by omega, by omega, by go_num, by rw [unhid HS, List.length_append, List.length_singleton]; simpa [ints] using unhid HO4, hb4⟩
        case measure => simp [intOf]; omega
      · have HS := hid ((unhid HSN) hx)
        go_wp2_with fail
        go_roundw
        case rel => exact ⟨q + 1, by omega, by omega, by go_num, by rw [unhid HS]; exact unhid HOWN, unhid HBEL⟩
        case measure => simp [intOf]; omega
    · obtain rfl : q = 9 := by omega
      obtain ⟨A3, c3, rfl, hrd, -⟩ := own_slice (unhid HOWN)
      have HRD := hid (show Rd wr A3 (ints (screensK f 8)) from hrd)
      clear hrd hd
      go_wp2_with fail
      go_ret
      first | exact ⟨(unhid HBW).trans ((unhid HBEL).mono (unhid HBW).size), A3, ⟨c3, rfl⟩, unhid HRD⟩ | exact ⟨(unhid HBW).trans ((unhid HBEL).mono (unhid HBW).size), A3, c3, rfl, unhid HRD⟩

theorem arrJ_zero (f : Fc) : arrJ f 0 = [0, 0, 0, 0, 0, 0, 0, 0, 0, 0] := by simp [arrJ, areaJ, List.range_succ]
theorem rowI_rowC (f : Fc) (j : Nat) : rowI f (j : Int) = rowC f j := rfl
theorem sums_bounds : ∀ l : List Rn, (∀ x ∈ l, 0 ≤ x.cnt ∧ x.cnt ≤ 200) → ∀ v, (0 ≤ sumV v l ∧ sumV v l ≤ 200 * l.length) ∧ 0 ≤ sumA l ∧ sumA l ≤ 200 * l.length
  | [], _, v => by simp [sumV, sumA]
  | r :: l, h, v => by
    have ih := sums_bounds l (fun x hx => h x (List.mem_cons_of_mem _ hx)) v
    have hr := h r List.mem_cons_self
    simp only [sumV, sumA, List.length_cons]
    split <;> omega
theorem rowV_bounds {f : Fc} (h : fcB f = true) {j : Nat} (hj : j ≤ 200) (r v : Nat) : -1000000 ≤ rowV f j r v ∧ rowV f j r v ≤ 1000000 := by
  obtain ⟨s0, s1⟩ := size_bounds h
  have hl := runs_len (rowC f j) f.size.toNat
  have he := (runs_ok (rowC f j) f.size.toNat).each
  have hs := sums_bounds ((runsK (rowC f j) f.size.toNat).take r) (fun x hx => by
    have := he x (List.mem_of_mem_take hx)
    omega) (v : Int)
  have hlen : ((runsK (rowC f j) f.size.toNat).take r).length ≤ 200 := by rw [List.length_take]; omega
  obtain ⟨a0, a1⟩ := areaJ_bounds f (v : Int) j
  obtain ⟨b0, b1⟩ := areaJ_bounds f 0 j
  have hm : (j : Int) * (f.size.toNat : Int) ≤ 200 * 200 := Int.mul_le_mul (by omega) (by omega) (by omega) (by omega)
  unfold rowV
  split <;> omega
theorem rd_setd {w : World} {A : Option Addr} {xs : List Value} {g : Nat} (h : Rd w A xs) (hf : ∀ a, A = some a → a.block ≠ g) (i : Nat) (u : Value) : Rd (w.setCell ⟨g, i, none⟩ u) A xs := fun hx => by
  obtain ⟨b, off, rfl, hb, hc⟩ := h hx
  have hfb := hf _ rfl
  dsimp only at hfb
  refine ⟨b, off, rfl, by simpa [World.setCell] using hb, fun j v hv => ?_⟩
  rw [← hc j v hv]
  exact World.cell?_of_block (block_set_other _ _ hfb)
theorem arrJ_areas (f : Fc) : arrJ f (heiF f).toNat = areasL f := rfl

set_option maxHeartbeats 4000000 in
set_option maxRecDepth 100000 in
theorem pareas_calls (f : Fc) (A : Option Addr) (c : Nat) (w : World) (hit : ItsOk w A f.items) (hf : fcB f = true) :
    Calls Tryz.prog 54 #[.agg #[.int .i64 f.shape, .int .i64 f.size, .int .i64 f.height, .slice A f.items.length c]] w fun e w' => e = .returned (.tuple #[.agg (ints (areasL f)).toArray, .int .i64 0]) ∧ Below w.heap.size w w' := by
  obtain ⟨s0, s1⟩ := size_bounds hf
  obtain ⟨h0, h1⟩ := heiF_bounds hf
  have HFF := hid hf
  obtain ⟨hh, hhh⟩ : ∃ hh : Nat, hh = (heiF f).toNat := ⟨_, rfl⟩
  have hh0 : 1 ≤ hh ∧ hh ≤ 200 := by omega
  have HHH := hid (show (hh : Int) = heiF f by omega)
  have HAR := hid (show arrJ f hh = areasL f by rw [hhh]; rfl)
  have HVB := hid (fun (j : Nat) (hj : j ≤ 200) => rowV_bounds hf hj)
  have HJB := hid (fun (j : Nat) => areaJ_bounds f 0 j)
  have HF := hid ((FaceAt.new w c hit).below (below_alloc _ (.cells #[.int .i64 0, .int .i64 0, .int .i64 0, .int .i64 0, .int .i64 0, .int .i64 0, .int .i64 0, .int .i64 0, .int .i64 0, .int .i64 0] 77)))
  have hRn : ((w.alloc (.cells #[.int .i64 f.shape, .int .i64 f.size, .int .i64 f.height, .slice A f.items.length c] 25)).alloc (.cells #[.int .i64 0, .int .i64 0, .int .i64 0, .int .i64 0, .int .i64 0, .int .i64 0, .int .i64 0, .int .i64 0, .int .i64 0, .int .i64 0] 77)).heap[w.heap.size + 1]? = some (.cells #[.int .i64 0, .int .i64 0, .int .i64 0, .int .i64 0, .int .i64 0, .int .i64 0, .int .i64 0, .int .i64 0, .int .i64 0, .int .i64 0] 77 (0, 0)) := by
    have h := heap_alloc_new (w.alloc (.cells #[.int .i64 f.shape, .int .i64 f.size, .int .i64 f.height, .slice A f.items.length c] 25)) (.cells #[.int .i64 0, .int .i64 0, .int .i64 0, .int .i64 0, .int .i64 0, .int .i64 0, .int .i64 0, .int .i64 0, .int .i64 0, .int .i64 0] 77)
    simpa using h
  have HR := hid hRn
  have HB := hid (below_alloc' (below_alloc w (.cells #[.int .i64 f.shape, .int .i64 f.size, .int .i64 f.height, .slice A f.items.length c] 25)) (.cells #[.int .i64 0, .int .i64 0, .int .i64 0, .int .i64 0, .int .i64 0, .int .i64 0, .int .i64 0, .int .i64 0, .int .i64 0, .int .i64 0] 77))
  clear hit hf hhh hRn
  go_enter Tryz.func54, Tryz.ntmps54
  go_wp2_with fail
  generalize (w.alloc (.cells #[.int .i64 f.shape, .int .i64 f.size, .int .i64 f.height, .slice A f.items.length c] 25)).alloc (.cells #[.int .i64 0, .int .i64 0, .int .i64 0, .int .i64 0, .int .i64 0, .int .i64 0, .int .i64 0, .int .i64 0, .int .i64 0, .int .i64 0] 77) = W at *
  refine (valid_calls f A c W (unhid HF).ok).mono ?_
  rintro e wa ⟨rfl, hba⟩
  rw [unhid HFF]
  have HF := hid ((unhid HF).below hba)
  have hRl := (Array.getElem?_eq_some_iff.1 (unhid HR)).1
  have HR := hid ((hba.block _ hRl).trans (unhid HR))
  have HB := hid ((unhid HB).trans (hba.mono (unhid HB).size))
  have hR1 : w.heap.size + 1 < wa.heap.size := Nat.lt_of_lt_of_le hRl hba.size
  clear hba hRl
  obtain ⟨B, hBB⟩ : ∃ B, B = w.heap.size := ⟨_, rfl⟩
  rw [← hBB] at HF HR hR1 ⊢
  have HBB := hid hBB
  clear hBB
  have e0 : (ints (arrJ f 0)).toArray = #[Value.int .i64 0, .int .i64 0, .int .i64 0, .int .i64 0, .int .i64 0, .int .i64 0, .int .i64 0, .int .i64 0, .int .i64 0, .int .i64 0] := by rw [arrJ_zero]; rfl
  have hO : (wa.alloc (.cells #[.int .i64 0, .int .i64 0, .int .i64 0, .int .i64 0, .int .i64 0, .int .i64 0, .int .i64 0, .int .i64 0, .int .i64 0, .int .i64 0] 77)).heap[wa.heap.size]? = some (.cells (ints (arrJ f 0)).toArray 77 (0, 0)) := by rw [e0]; exact heap_alloc_new wa _
  have HO := hid hO
  have HBO := hid (below_alloc wa (.cells #[.int .i64 0, .int .i64 0, .int .i64 0, .int .i64 0, .int .i64 0, .int .i64 0, .int .i64 0, .int .i64 0, .int .i64 0, .int .i64 0] 77))
  clear hO e0
  go_upto_region 4 with (fail)
  generalize wa.alloc (.cells #[.int .i64 0, .int .i64 0, .int .i64 0, .int .i64 0, .int .i64 0, .int .i64 0, .int .i64 0, .int .i64 0, .int .i64 0, .int .i64 0] 77) = W1 at *
  have HF1 := hid ((unhid HF).below (unhid HBO))
  obtain ⟨c0, c1, c2, c3⟩ := (unhid HF1).cells
  go_wp2_with fail
  refine (extent_calls f A c W1 (by omega) (by omega)).mono ?_
  rintro e wb ⟨rfl, hbb⟩
  have HO := hid ((hbb.block _ (Array.getElem?_eq_some_iff.1 (unhid HO)).1).trans (unhid HO))
  have HBO := hid ((unhid HBO).trans (hbb.mono (unhid HBO).size))
  clear hbb c0 c1 c2 c3
  obtain ⟨O, hOO⟩ : ∃ O, O = wa.heap.size := ⟨_, rfl⟩
  rw [← hOO] at HO HBO hR1 ⊢
  have HOO := hid hOO
  clear hOO
  go_wp2_with fail
  go_loopw [20] (fun jv wr => ∃ j : Nat, j ≤ hh ∧ jv = .int .i64 j ∧ wr.heap[O]? = some (.cells (ints (arrJ f j)).toArray 77 (0, 0)) ∧ Below O wa wr) (fun jv _ => hh - (intOf jv).toNat)
  case atStart => exact ⟨0, Nat.zero_le _, rfl, unhid HO, unhid HBO⟩
  case round =>
    obtain ⟨j, hj, rfl, ho, hbel⟩ := hrel
    have HO2 := hid ho
    have HBL := hid hbel
    clear ho hbel
    by_cases hjl : j < hh
    · have hjh : (j : Int) < heiF f := by have := unhid HHH; omega
      have m0 := rowd_cell (unhid HO2) (arrJ_at f j (v := 0) (by omega))
      have m1 := rowd_free (unhid HO2) 0
      have hjb := (unhid HJB) j
      have hjm : (j : Int) * (f.size.toNat : Int) ≤ 200 * 200 := Int.mul_le_mul (by omega) (by omega) (by omega) (by omega)
      simp only [Int.natCast_zero] at m0
      obtain ⟨y0, y0'⟩ := w64 (n := areaJ f 0 j + f.size) (by omega) (by omega)
      go_upto_region 9 with (fail)
      have HO3 := hid (show (wr.setCell ⟨O, 0, none⟩ (.int .i64 (areaJ f 0 j + f.size))).heap[O]? = some (.cells (ints (rowS f j 0)).toArray 77 (0, 0)) by rw [rowS_start]; exact rowd_set (unhid HO2) _ _)
      have HB3 := hid (show Below O wa (wr.setCell ⟨O, 0, none⟩ (.int .i64 (areaJ f 0 j + f.size))) from Below.setCell (unhid HBL) (Nat.le_refl _) _)
      generalize wr.setCell ⟨O, 0, none⟩ (.int .i64 (areaJ f 0 j + f.size)) = W3 at *
      clear m0 m1 y0 y0'
      have HF3 := hid ((unhid HF).below (show Below wa.heap.size wa W3 by rw [← unhid HOO]; exact unhid HB3))
      obtain ⟨c0, c1, c2, c3⟩ := (unhid HF3).cells
      go_wp2_with fail
      refine (row_calls f A c (j : Int) W3 (unhid HF3).ok (unhid HFF) ⟨Int.natCast_nonneg _, hjh⟩).mono ?_
      rintro e w4 ⟨hb4, A1, k1, rfl, hr1, hfr⟩
      have hOl := (Array.getElem?_eq_some_iff.1 (unhid HO3)).1
      have HO4 := hid ((hb4.block O hOl).trans (unhid HO3))
      have HB4 := hid ((unhid HB3).trans (hb4.mono (Nat.le_of_lt hOl)))
      have HR1 := hid hr1
      have HFR := hid (show ∀ a, A1 = some a → O < a.block from fun a ha => Nat.lt_of_lt_of_le hOl (hfr a ha))
      clear hb4 hr1 hfr c0 c1 c2 c3 hOl
      rw [rowI_rowC] at HR1 ⊢
      have HEACH := hid (runs_ok (rowC f j) f.size.toNat).each
      have HNX := hid (fun (r cv : Nat) (hr : r < (runsK (rowC f j) f.size.toNat).length) (h1 : 1 ≤ cv) (h9 : cv < 10) hc => rowS_next (f := f) (j := j) hr h1 h9 hc)
      have HEND := hid (rowS_end (unhid HFF) j)
      have HCB := hid (fun i => colI_bounds (unhid HFF) i (j : Int))
      have hrl := runs_len (rowC f j) f.size.toNat
      obtain ⟨R, hR⟩ : ∃ R, R = runsK (rowC f j) f.size.toNat := ⟨_, rfl⟩
      have HRR := hid hR
      rw [← hR] at HR1 HEACH hrl HEND ⊢
      clear hR
      go_wp2_with fail
      go_loopw [32] (fun rv wr => ∃ r : Nat, r ≤ R.length ∧ rv = .int .i64 r ∧ wr.heap[O]? = some (.cells (ints (rowS f j r)).toArray 77 (0, 0)) ∧ Rd wr A1 (rns R) ∧ Below O wa wr) (fun rv _ => R.length - (intOf rv).toNat)
      case atStart => exact ⟨0, Nat.zero_le _, rfl, unhid HO4, unhid HR1, unhid HB4⟩
      case round =>
        obtain ⟨r, hr, rfl, ho, hrd, hbel⟩ := hrel
        have HO5 := hid ho
        have HR5 := hid hrd
        have HB5 := hid hbel
        clear ho hrd hbel
        by_cases hrl2 : r < R.length
        · obtain ⟨b, off, rfl, hb, hc⟩ := (unhid HR5) (rns_ne hrl2)
          obtain ⟨d0, d1, d2⟩ := rns_cells hc hrl2
          have hex := (unhid HEACH) R[r] (List.getElem_mem hrl2)
          have HXX := hid (show ∀ h : r < (runsK (rowC f j) f.size.toNat).length, (runsK (rowC f j) f.size.toNat)[r] = R[r] from fun h => by simp [unhid HRR])
          have hbO := (unhid HFR) _ rfl
          dsimp only at hbO
          obtain ⟨x, hx⟩ : ∃ x, x = R[r] := ⟨_, rfl⟩
          rw [← hx] at d0 d1 d2 hex HXX
          clear hx hc
          obtain ⟨ex0, ex1, ex2, ex3⟩ := hex
          obtain ⟨fi, hfi⟩ := Int.eq_ofNat_of_zero_le ex0
          obtain ⟨ec1, ec2⟩ := ex3 fi (by omega) (by omega)
          have hcb := (unhid HCB) (fi : Int)
          have hcol : 1 ≤ x.col ∧ x.col ≤ 9 := by
            have e : rowC f j fi = colI f (fi : Int) (j : Int) := rfl
            omega
          obtain ⟨cv, hcv⟩ := Int.eq_ofNat_of_zero_le (show 0 ≤ x.col by omega)
          have hcv9 : 1 ≤ cv ∧ cv < 10 := by omega
          have hrl3 : r < (runsK (rowC f j) f.size.toNat).length := by rw [← unhid HRR]; exact hrl2
          have hnext := (unhid HNX) r cv hrl3 hcv9.1 hcv9.2 (by rw [(unhid HXX) hrl3]; exact hcv)
          rw [(unhid HXX) hrl3] at hnext
          have HNEXT := hid hnext
          have vb0 := (unhid HVB) j (by omega) r 0
          have vb1 := (unhid HVB) j (by omega) r cv
          have hOl := (Array.getElem?_eq_some_iff.1 (unhid HO5)).1
          have hcv10 : (cv : Int) < 10 := by omega
          rw [hcv] at d2
          have hcn : 1 ≤ x.cnt ∧ x.cnt ≤ 1000 := by omega
          clear hnext ex0 ex3 ec1 ec2 hcb hcol hfi
          obtain ⟨p, hp⟩ : ∃ p, p = rowV f j r cv := ⟨_, rfl⟩
          obtain ⟨q, hq⟩ : ∃ q, q = rowV f j r 0 := ⟨_, rfl⟩
          have hat1 := rowS_at f j r (v := cv) hcv9.2
          have hat0 := rowS_at f j r (v := 0) (by omega)
          rw [← hp] at vb1 hat1 HNEXT
          rw [← hq] at vb0 hat0 HNEXT
          clear hp hq
          obtain ⟨y0, y0'⟩ := w64 (n := p + x.cnt) (by omega) (by omega)
          obtain ⟨y1, y1'⟩ := w64 (n := q - x.cnt) (by omega) (by omega)
          have HCV := hid hcv
          clear hcv
          obtain ⟨fr, cnt, col⟩ := x
          dsimp only at *
          have hsub : col = (cv : Int) := unhid HCV
          go_upto_region 12 with (fail)
          have hbn := below_alloc wr (.cells #[.int .i64 fr, .int .i64 cnt, .int .i64 cv] 85)
          have HO6 := hid ((hbn.block O hOl).trans (unhid HO5))
          have HR6 := hid ((unhid HR5).below hbn)
          have HB6 := hid ((unhid HB5).trans (hbn.mono (Nat.le_of_lt hOl)))
          have HE6 := hid (heap_alloc_new wr (.cells #[.int .i64 fr, .int .i64 cnt, .int .i64 cv] 85))
          have hEO : O < wr.heap.size := hOl
          generalize wr.alloc (.cells #[.int .i64 fr, .int .i64 cnt, .int .i64 cv] 85) = W6 at *
          generalize wr.heap.size = E at *
          have g1 := cell_of_row _ E 1 _ _ _ (unhid HE6)
          have g2 := cell_of_row _ E 2 _ _ _ (unhid HE6)
          simp at g1 g2
          have m0 := rowd_cell (unhid HO6) hat1
          have m1 := rowd_free (unhid HO6) cv
          clear hbn d0 d1 d2 hb
          refine wp_region_noPanic ?_
          refine wp_region_E (S := fun w' => w'.cell? ⟨E, 2, none⟩ = some (.int .i64 cv) ∧ w'.cell? ⟨E, 1, none⟩ = some (.int .i64 cnt) ∧ w'.cell? ⟨O, cv, none⟩ = some (.int .i64 p)) 8 9 rfl (by kernel_rfl) (by kernel_rfl) ⟨g2, g1, m0⟩ ?_
          intro hSE
          (refine WE_take (i := 0) (v := ?_) rfl (by kernel_rfl) (by decide) (by kernel_rfl) (by kernel_rfl) (fun _ _ _ h => h) (by rfl) hSE ?_ ?_; rotate_left; (focus (intro w hSw; (try dsimp only at hSw); go_simp; (try with_reducible rfl))); simp only [Act.put, List.setIfInBounds_toArray, List.set_cons_zero, List.set_cons_succ])
          (refine WE_take (i := 1) (v := ?_) rfl (by kernel_rfl) (by decide) (by kernel_rfl) (by kernel_rfl) (fun _ _ _ h => h) (by rfl) hSE ?_ ?_; rotate_left; (focus (intro w hSw; (try dsimp only at hSw); go_simp; (try with_reducible rfl))); simp only [Act.put, List.setIfInBounds_toArray, List.set_cons_zero, List.set_cons_succ])
          (refine WE_take (i := 2) (v := ?_) rfl (by kernel_rfl) (by decide) (by kernel_rfl) (by kernel_rfl) (fun _ _ _ h => h) (by rfl) hSE ?_ ?_; rotate_left; (focus (intro w hSw; (try dsimp only at hSw); go_simp; (try with_reducible rfl))); simp only [Act.put, List.setIfInBounds_toArray, List.set_cons_zero, List.set_cons_succ])
          (refine WE_take (i := 3) (v := ?_) rfl (by kernel_rfl) (by decide) (by kernel_rfl) (by kernel_rfl) (fun _ _ _ h => h) (by rfl) hSE ?_ ?_; rotate_left; (focus (intro w hSw; (try dsimp only at hSw); go_simp; (try with_reducible rfl))); simp only [Act.put, List.setIfInBounds_toArray, List.set_cons_zero, List.set_cons_succ])
          (refine WE_take (i := 4) (v := ?_) rfl (by kernel_rfl) (by decide) (by kernel_rfl) (by kernel_rfl) (fun _ _ _ h => h) (by rfl) hSE ?_ ?_; rotate_left; (focus (intro w hSw; (try dsimp only at hSw); go_simp; (try with_reducible rfl))); simp only [Act.put, List.setIfInBounds_toArray, List.set_cons_zero, List.set_cons_succ])
          (refine WE_take (i := 5) (v := ?_) rfl (by kernel_rfl) (by decide) (by kernel_rfl) (by kernel_rfl) (fun _ _ _ h => h) (by rfl) hSE ?_ ?_; rotate_left; (focus (intro w hSw; (try dsimp only at hSw); go_simp; (try with_reducible rfl))); simp only [Act.put, List.setIfInBounds_toArray, List.set_cons_zero, List.set_cons_succ])
          (refine WE_take (i := 6) (v := ?_) rfl (by kernel_rfl) (by decide) (by kernel_rfl) (by kernel_rfl) (fun _ _ _ h => h) (by rfl) hSE ?_ ?_; rotate_left; (focus (intro w hSw; (try dsimp only at hSw); go_simp; (try with_reducible rfl))); simp only [Act.put, List.setIfInBounds_toArray, List.set_cons_zero, List.set_cons_succ])
          (refine WE_take (i := 7) (v := ?_) rfl (by kernel_rfl) (by decide) (by kernel_rfl) (by kernel_rfl) (fun _ _ _ h => h) (by rfl) hSE ?_ ?_; rotate_left; (focus (intro w hSw; (try dsimp only at hSw); go_simp; (try with_reducible rfl))); simp only [Act.put, List.setIfInBounds_toArray, List.set_cons_zero, List.set_cons_succ])
          (refine WE_last rfl (by kernel_rfl) (by kernel_rfl) (by kernel_rfl) ?_; intro K hK; go_simp; refine hK.out _ _ (NoPanic.normal ?_); clear hK K)
          have HO7 := hid (show ((W6.setCell ⟨O, cv, none⟩ (.int .i64 (p + cnt))).drew).heap[O]? = some (.cells (ints ((rowS f j r).set cv (p + cnt))).toArray 77 (0, 0)) from rowd_set (unhid HO6) _ _)
          have hE7 : ((W6.setCell ⟨O, cv, none⟩ (.int .i64 (p + cnt))).drew).heap[E]? = some (.cells #[.int .i64 fr, .int .i64 cnt, .int .i64 cv] 85 (0, 0)) := (heap_setCell_other _ _ _ _ (by dsimp only; omega)).trans (unhid HE6)
          have HR7 := hid (show Rd ((W6.setCell ⟨O, cv, none⟩ (.int .i64 (p + cnt))).drew) (some ⟨b, off, none⟩) (rns R) from rd_setd (unhid HR6) (fun a ha => by cases ha; dsimp only; omega) cv _)
          have HB7 := hid (show Below O wa ((W6.setCell ⟨O, cv, none⟩ (.int .i64 (p + cnt))).drew) from Below.drew (Below.setCell (unhid HB6) (Nat.le_refl _) _))
          generalize (W6.setCell ⟨O, cv, none⟩ (.int .i64 (p + cnt))).drew = W7 at *
          have k1' := cell_of_row _ E 1 _ _ _ hE7
          simp at k1'
          have m2 := rowd_cell (unhid HO7) (b := 0) (x := q) (by rw [List.getElem?_set_ne (by omega)]; exact hat0)
          have m3 := rowd_free (unhid HO7) 0
          clear g1 g2 m0 m1 hE7
          go_wp2_with fail
          go_roundw
          case rel =>
            refine ⟨r + 1, by omega, by go_num, ?_, rd_setd (unhid HR7) (fun a ha => by cases ha; dsimp only; omega) 0 _, Below.setCell (unhid HB7) (Nat.le_refl _) _⟩
            rw [unhid HNEXT]
            exact rowd_set (unhid HO7) _ _
          case measure => simp [intOf]; omega
        · obtain rfl : r = R.length := by omega
          go_wp2_with fail
          go_roundw
          case rel => exact ⟨j + 1, by omega, by go_num, by rw [← unhid HEND]; exact unhid HO5, unhid HB5⟩
          case measure => simp [intOf]; omega
    · obtain rfl : j = hh := by omega
      have hjn : ¬ (j : Int) < heiF f := by have := unhid HHH; omega
      have HR9 := hid (((unhid HBL).block (B + 1) hR1).trans (unhid HR))
      have ho := unhid HO2
      rw [unhid HAR] at ho
      have HO3 := hid ho
      clear ho
      go_wp2_with (first | (refine wpList_load_row rfl 77 (.tmp 4) rfl O rfl 77 (ints (areasL f)).toArray (0, 0) _ (unhid HO3) Tryz.underlying77 rfl (arr_size (areasL_len f)) ?_) | (refine wpList_store_row rfl 77 (.tmp 2) (.tmp 52) rfl (B + 1) (ints (areasL f)).toArray rfl rfl 77 _ (unhid HR9) (arr_size (areasL_len f)) (by simp [areasL_len]) (arr_one _) ?_))
      (try simp only [Exit.inBlock, Exit.then])
      refine bodyPost_ret_by (v := .tuple #[.agg (ints (areasL f)).toArray, .int .i64 0]) (results_cell_row_tmp Tryz.results54 _ _ (B + 1) 77 (ints (areasL f)).toArray (0, 0) _ _ rfl rfl (setRow_heap _ _ _ _ _ _ (unhid HR9)) Tryz.underlying77 rfl (arr_size (areasL_len f))) rfl ?_
      exact ⟨rfl, below_setRow ((unhid HB).trans ((unhid HBL).mono (by have := unhid HBB; have := unhid HOO; omega))) (by have := unhid HBB; omega) _⟩


theorem z10_one : (#[Value.int .i64 0, .int .i64 0, .int .i64 0, .int .i64 0, .int .i64 0, .int .i64 0, .int .i64 0, .int .i64 0, .int .i64 0, .int .i64 0] : Array Value).all (·.oneCell') = true := by kernel_rfl
theorem z10_size : (Tryz.prog.info? 77).map (·.size) = some (#[Value.int .i64 0, .int .i64 0, .int .i64 0, .int .i64 0, .int .i64 0, .int .i64 0, .int .i64 0, .int .i64 0, .int .i64 0, .int .i64 0] : Array Value).size := by
  show _ = some 10
  kernel_rfl

set_option maxHeartbeats 2000000 in
set_option maxRecDepth 100000 in
theorem pareas_no (f : Fc) (A : Option Addr) (c : Nat) (w : World) (hit : ItsOk w A f.items) (hf : fcB f = false) :
    Calls Tryz.prog 54 #[.agg #[.int .i64 f.shape, .int .i64 f.size, .int .i64 f.height, .slice A f.items.length c]] w fun e w' => e = .returned (.tuple #[.agg #[.int .i64 0, .int .i64 0, .int .i64 0, .int .i64 0, .int .i64 0, .int .i64 0, .int .i64 0, .int .i64 0, .int .i64 0, .int .i64 0], .int .i64 10]) ∧ Below w.heap.size w w' := by
  have HFF := hid hf
  have HF := hid ((FaceAt.new w c hit).below (below_alloc _ (.cells #[.int .i64 0, .int .i64 0, .int .i64 0, .int .i64 0, .int .i64 0, .int .i64 0, .int .i64 0, .int .i64 0, .int .i64 0, .int .i64 0] 77)))
  have hRn : ((w.alloc (.cells #[.int .i64 f.shape, .int .i64 f.size, .int .i64 f.height, .slice A f.items.length c] 25)).alloc (.cells #[.int .i64 0, .int .i64 0, .int .i64 0, .int .i64 0, .int .i64 0, .int .i64 0, .int .i64 0, .int .i64 0, .int .i64 0, .int .i64 0] 77)).heap[w.heap.size + 1]? = some (.cells #[.int .i64 0, .int .i64 0, .int .i64 0, .int .i64 0, .int .i64 0, .int .i64 0, .int .i64 0, .int .i64 0, .int .i64 0, .int .i64 0] 77 (0, 0)) := by
    have h := heap_alloc_new (w.alloc (.cells #[.int .i64 f.shape, .int .i64 f.size, .int .i64 f.height, .slice A f.items.length c] 25)) (.cells #[.int .i64 0, .int .i64 0, .int .i64 0, .int .i64 0, .int .i64 0, .int .i64 0, .int .i64 0, .int .i64 0, .int .i64 0, .int .i64 0] 77)
    simpa using h
  have HR := hid hRn
  have HB := hid (below_alloc' (below_alloc w (.cells #[.int .i64 f.shape, .int .i64 f.size, .int .i64 f.height, .slice A f.items.length c] 25)) (.cells #[.int .i64 0, .int .i64 0, .int .i64 0, .int .i64 0, .int .i64 0, .int .i64 0, .int .i64 0, .int .i64 0, .int .i64 0, .int .i64 0] 77))
  clear hit hf hRn
  go_enter Tryz.func54, Tryz.ntmps54
  go_wp2_with fail
  generalize (w.alloc (.cells #[.int .i64 f.shape, .int .i64 f.size, .int .i64 f.height, .slice A f.items.length c] 25)).alloc (.cells #[.int .i64 0, .int .i64 0, .int .i64 0, .int .i64 0, .int .i64 0, .int .i64 0, .int .i64 0, .int .i64 0, .int .i64 0, .int .i64 0] 77) = W at *
  refine (valid_calls f A c W (unhid HF).ok).mono ?_
  rintro e wa ⟨rfl, hba⟩
  rw [unhid HFF]
  have HR := hid ((hba.block _ (Array.getElem?_eq_some_iff.1 (unhid HR)).1).trans (unhid HR))
  have HB := hid ((unhid HB).trans (hba.mono (unhid HB).size))
  clear hba HF
  go_wp2_with (refine wpList_store_row rfl 77 (.tmp 2) (.tmp 13) rfl (w.heap.size + 1) #[.int .i64 0, .int .i64 0, .int .i64 0, .int .i64 0, .int .i64 0, .int .i64 0, .int .i64 0, .int .i64 0, .int .i64 0, .int .i64 0] rfl rfl 77 _ (unhid HR) z10_size rfl z10_one ?_)
  (try simp only [Exit.inBlock, Exit.then])
  refine bodyPost_ret_by (v := .tuple #[.agg #[.int .i64 0, .int .i64 0, .int .i64 0, .int .i64 0, .int .i64 0, .int .i64 0, .int .i64 0, .int .i64 0, .int .i64 0, .int .i64 0], .int .i64 10]) (results_cell_row_tmp Tryz.results54 _ _ (w.heap.size + 1) 77 #[.int .i64 0, .int .i64 0, .int .i64 0, .int .i64 0, .int .i64 0, .int .i64 0, .int .i64 0, .int .i64 0, .int .i64 0, .int .i64 0] (0, 0) _ _ rfl rfl (setRow_heap _ _ _ _ _ _ (unhid HR)) Tryz.underlying77 rfl z10_size) rfl ?_
  exact ⟨rfl, below_setRow (unhid HB) (by omega) _⟩

set_option maxHeartbeats 2000000 in
set_option maxRecDepth 100000 in
theorem pscreens_no (f : Fc) (A : Option Addr) (c : Nat) (w : World) (hit : ItsOk w A f.items) (hf : fcB f = false) :
    Calls Tryz.prog 55 #[.agg #[.int .i64 f.shape, .int .i64 f.size, .int .i64 f.height, .slice A f.items.length c]] w fun e w' => e = .returned (.tuple #[.slice none 0 0, .int .i64 10]) ∧ Below w.heap.size w w' := by
  have HFF := hid hf
  have HF := hid (FaceAt.new w c hit)
  have HB := hid (below_alloc w (.cells #[.int .i64 f.shape, .int .i64 f.size, .int .i64 f.height, .slice A f.items.length c] 25))
  clear hit hf
  go_enter Tryz.func55, Tryz.ntmps55
  go_wp2_with fail
  generalize w.alloc (.cells #[.int .i64 f.shape, .int .i64 f.size, .int .i64 f.height, .slice A f.items.length c] 25) = W at *
  refine (pareas_no f A c W (unhid HF).ok (unhid HFF)).mono ?_
  rintro e w1 ⟨rfl, hb⟩
  have HB1 := hid ((unhid HB).trans (hb.mono (unhid HB).size))
  clear hb HB HF
  go_wp2_with fail
  go_ret2
  exact ⟨rfl, below_alloc' (unhid HB1) _⟩

set_option maxHeartbeats 4000000 in
set_option maxRecDepth 100000 in
theorem pscreens_calls (f : Fc) (A : Option Addr) (c : Nat) (w : World) (hit : ItsOk w A f.items) (hf : fcB f = true) :
    Calls Tryz.prog 55 #[.agg #[.int .i64 f.shape, .int .i64 f.size, .int .i64 f.height, .slice A f.items.length c]] w fun e w' => Below w.heap.size w w' ∧ ∃ (A3 : Option Addr) (c3 : Nat), e = .returned (.tuple #[.slice A3 (screensK f 8).length c3, .int .i64 0]) ∧ Rd w' A3 (ints (screensK f 8)) := by
  have HFF := hid hf
  obtain ⟨i0, hi, hz0, hz1, hz2⟩ := info_partsd info_i64d
  have HF := hid (FaceAt.new w c hit)
  have HB := hid (below_alloc w (.cells #[.int .i64 f.shape, .int .i64 f.size, .int .i64 f.height, .slice A f.items.length c] 25))
  clear hit hf
  go_enter Tryz.func55, Tryz.ntmps55
  go_wp2_with fail
  generalize w.alloc (.cells #[.int .i64 f.shape, .int .i64 f.size, .int .i64 f.height, .slice A f.items.length c] 25) = W at *
  refine (pareas_calls f A c W (unhid HF).ok (unhid HFF)).mono ?_
  rintro e w1 ⟨rfl, hb1⟩
  have HB1 := hid ((unhid HB).trans (hb1.mono (unhid HB).size))
  clear hb1
  have hz : (w1.alloc (.cells #[.int .i64 0, .int .i64 0, .int .i64 0, .int .i64 0, .int .i64 0, .int .i64 0, .int .i64 0, .int .i64 0, .int .i64 0, .int .i64 0] 77)).heap[w1.heap.size]? = some (.cells #[.int .i64 0, .int .i64 0, .int .i64 0, .int .i64 0, .int .i64 0, .int .i64 0, .int .i64 0, .int .i64 0, .int .i64 0, .int .i64 0] 77 (0, 0)) := heap_alloc_new _ _
  have HZ := hid hz
  have HBA := hid (below_alloc w1 (.cells #[.int .i64 0, .int .i64 0, .int .i64 0, .int .i64 0, .int .i64 0, .int .i64 0, .int .i64 0, .int .i64 0, .int .i64 0, .int .i64 0] 77))
  clear hz
  go_wp2_with (refine wpList_store_row rfl 77 (.tmp 4) (.tmp 11) rfl w1.heap.size (ints (areasL f)).toArray rfl rfl 77 _ (unhid HZ) (arr_size (areasL_len f)) (by simp [areasL_len]) (arr_one _) ?_)
  have HD := hid (setRow_heap _ _ _ (ints (areasL f)).toArray _ _ (unhid HZ))
  have HBW := hid (below_setRow ((unhid HB1).trans ((unhid HBA).mono (unhid HB1).size)) (unhid HB1).size (ints (areasL f)).toArray)
  generalize World.setRow _ w1.heap.size (ints (areasL f)).toArray = Wb at *
  generalize w1.heap.size = D at *
  clear HZ HBA
  go_wp2_with fail
  go_loopw [7, 6] (fun cvv v wr => ∃ q : Nat, 1 ≤ q ∧ q ≤ 9 ∧ cvv = .int .i64 q ∧ wr.ownsRow Wb.heap.size 3 1 v (screensK f (q - 1)).length (ints (screensK f (q - 1))) ∧ Below Wb.heap.size Wb wr) (fun cvv _ _ => 10 - (intOf cvv).toNat)
  case atStart => exact ⟨1, by omega, by omega, rfl, World.ownsRow_nil _ _ _ _, Below.refl _ _⟩
  case round =>
    obtain ⟨q, hq1, hq2, rfl, hown, hbel⟩ := hrel
    have HOWN := hid hown
    have HBEL := hid hbel
    have hd := (hbel.block D (Array.getElem?_eq_some_iff.1 (unhid HD)).1).trans (unhid HD)
    clear hown hbel
    by_cases hq : q < 9
    · have m0 := rowd_cell hd (areasL_at f (v := q) (by omega))
      have HLN := hid (screensK_len f (q - 1))
      have hsl := screensK_len f (q - 1)
      have hq8 : (q : Int) ≤ 8 := by omega
      have hq10 : (q : Int) < 10 := by omega
      obtain ⟨p, hp⟩ : ∃ p, q = p + 1 := ⟨q - 1, by omega⟩
      have HSY := hid (show 0 < areaP f (q : Int) → screensK f (q + 1 - 1) = screensK f (q - 1) ++ [(q : Int)] from fun h => by
        subst hp
        simp only [Nat.add_sub_cancel]
        rw [screensK, if_pos h])
      have HSN := hid (show ¬ 0 < areaP f (q : Int) → screensK f (q + 1 - 1) = screensK f (q - 1) from fun h => by
        subst hp
        simp only [Nat.add_sub_cancel]
        rw [screensK, if_neg h])
      clear hd hp
      generalize areaP f (q : Int) = x at *
      by_cases hx : 0 < x
      · have HS := hid ((unhid HSY) hx)
        go_wp2_with (at_builtin; refine wpList_append_own _ rfl _ _ 34 rfl Wb.heap.size 3 i0 (.int .i64 0) 1 8 Tryz.underlying34 hi hz0 hz1 hz2 rfl (by decide) _ _ _ rfl ((unhid HOWN).alloc _) ⟨wr.heap.size, 0, none⟩ 1 1 [.int .i64 q] rfl rfl (by exact World.news_of_block (cs := #[.int .i64 q]) (t := 3) (fr := (0, 0)) (by simpa using heap_alloc_new wr (.cells #[.int .i64 q] 3))) ?k2 ?k3 ?k4 ?k5 ?_)
        case k2 => first | rfl | (intro u hu; simp at hu; subst hu; rfl)
        case k3 => unfold maxLen; omega
        case k4 => omega
        case k5 => have := (unhid HBEL).size; simp; omega
        intro v' w4 hown4 hg4 _
        have hb4 : Below Wb.heap.size Wb w4 := by
          refine Below.grown ((unhid HBEL).alloc (unhid HBEL).size _) hg4 (by have := (unhid HBEL).size; simp; omega) (fun i hi => ?_)
          rcases Nat.lt_or_ge i Wb.heap.size with h | h
          · exact absurd hi (own_ne (unhid HOWN) (Or.inl h))
          · exact h
        have HO4 := hid hown4
        clear hown4 hg4
        go_wp2_with fail
        go_roundw
        case rel => exact ⟨q + 1, by omega, by omega, by go_num, by rw [unhid HS, List.length_append, List.length_singleton]; simpa [ints] using unhid HO4, hb4⟩
        case measure => simp [intOf]; omega
      · have HS := hid ((unhid HSN) hx)
        go_wp2_with fail
        go_roundw
        case rel => exact ⟨q + 1, by omega, by omega, by go_num, by rw [unhid HS]; exact unhid HOWN, unhid HBEL⟩
        case measure => simp [intOf]; omega
    · obtain rfl : q = 9 := by omega
      obtain ⟨A3, c3, rfl, hrd, -⟩ := own_slice (unhid HOWN)
      have HRD := hid (show Rd wr A3 (ints (screensK f 8)) from hrd)
      clear hrd hd
      go_wp2_with fail
      go_ret2
      first | exact ⟨(unhid HBW).trans ((unhid HBEL).mono (unhid HBW).size), A3, ⟨c3, rfl⟩, unhid HRD⟩ | exact ⟨(unhid HBW).trans ((unhid HBEL).mono (unhid HBW).size), A3, c3, rfl, unhid HRD⟩
set_option maxHeartbeats 2000000 in
set_option maxRecDepth 100000 in
theorem sameInts_same (l : List Int) (A A2 : Option Addr) (c c2 : Nat) (w : World) (h1 : Rd w A (ints l)) (h2 : Rd w A2 (ints l)) (hn : l.length ≤ 100000) :
    Calls Tryz.prog 48 #[.slice A l.length c, .slice A2 l.length c2] w fun e w' => e = .returned (.bool true) ∧ Below w.heap.size w w' := by
  have H1 := hid h1
  have H2 := hid h2
  clear h1 h2
  have hlen' : ((l.length : Int) != (l.length : Int)) = false := by simp
  go_enter Tryz.func48, Tryz.ntmps48
  go_wp2_with fail
  go_loopw [5] (fun i wr => ∃ k : Nat, k ≤ l.length ∧ i = .int .i64 k ∧ Below w.heap.size w wr) (fun i _ => l.length - (intOf i).toNat)
  case atStart => exact ⟨0, Nat.zero_le _, rfl, Below.refl _ _⟩
  case round =>
    obtain ⟨k, hk, rfl, hbel⟩ := hrel
    have HBL := hid hbel
    by_cases hlt : k < l.length
    · obtain ⟨b, off, rfl, hb, hc⟩ := ((unhid H1).below hbel) (ints_ne hlt)
      obtain ⟨b2, off2, rfl, hb2, hc2⟩ := ((unhid H2).below hbel) (ints_ne hlt)
      have m0 := hc k _ (ints_at l k hlt)
      have m1 := hc2 k _ (ints_at l k hlt)
      clear hc hc2 hbel
      generalize l[k] = x at *
      have hx : (x != x) = false := by simp
      go_wp2_with fail
      go_quiet (fail)
      go_wp2_with fail
      go_roundw
      case rel => exact ⟨k + 1, by omega, by go_num, by first | exact below_drewN' (unhid HBL) _ | exact Below.drew (unhid HBL)⟩
      case measure => simp [intOf]; omega
    · clear hbel
      go_wp2_with fail
      go_ret
      exact ⟨rfl, unhid HBL⟩


theorem cells_i64s : Tryz.prog.cellsOf 3 = 1 := by kernel_rfl
theorem cells_arr10 : Tryz.prog.cellsOf 77 = 10 := by kernel_rfl
theorem wf_area {x : Int} (h : 0 ≤ x ∧ x ≤ 40000) : (Lit.int .i64 x).wf = true := by
  simp [Lit.wf, IntKind.min, IntKind.max, IntKind.signed, IntKind.bits]
  omega
theorem eq100 (a0 a1 a2 a3 a4 a5 a6 a7 a8 a9 : Int) (h0 : 0 ≤ a0 ∧ a0 ≤ 40000) (h1 : 0 ≤ a1 ∧ a1 ≤ 40000) (h2 : 0 ≤ a2 ∧ a2 ≤ 40000) (h3 : 0 ≤ a3 ∧ a3 ≤ 40000) (h4 : 0 ≤ a4 ∧ a4 ≤ 40000) (h5 : 0 ≤ a5 ∧ a5 ≤ 40000) (h6 : 0 ≤ a6 ∧ a6 ≤ 40000) (h7 : 0 ≤ a7 ∧ a7 ≤ 40000) (h8 : 0 ≤ a8 ∧ a8 ≤ 40000) (h9 : 0 ≤ a9 ∧ a9 ≤ 40000) (w : World) : (Op.equalIn 10000 77 (.agg #[.int .i64 a0, .int .i64 a1, .int .i64 a2, .int .i64 a3, .int .i64 a4, .int .i64 a5, .int .i64 a6, .int .i64 a7, .int .i64 a8, .int .i64 a9]) (.agg #[.int .i64 a0, .int .i64 a1, .int .i64 a2, .int .i64 a3, .int .i64 a4, .int .i64 a5, .int .i64 a6, .int .i64 a7, .int .i64 a8, .int .i64 a9])).run Tryz.prog w = .ok true w := by
  have w0 : (Lit.int .i64 a0).wf = true := wf_area h0
  have w1 : (Lit.int .i64 a1).wf = true := wf_area h1
  have w2 : (Lit.int .i64 a2).wf = true := wf_area h2
  have w3 : (Lit.int .i64 a3).wf = true := wf_area h3
  have w4 : (Lit.int .i64 a4).wf = true := wf_area h4
  have w5 : (Lit.int .i64 a5).wf = true := wf_area h5
  have w6 : (Lit.int .i64 a6).wf = true := wf_area h6
  have w7 : (Lit.int .i64 a7).wf = true := wf_area h7
  have w8 : (Lit.int .i64 a8).wf = true := wf_area h8
  have w9 : (Lit.int .i64 a9).wf = true := wf_area h9
  have hl : Tryz.prog.keyLits 3 77 (#[.int .i64 a0, .int .i64 a1, .int .i64 a2, .int .i64 a3, .int .i64 a4, .int .i64 a5, .int .i64 a6, .int .i64 a7, .int .i64 a8, .int .i64 a9] : Array Value).toList = some [.int .i64 a0, .int .i64 a1, .int .i64 a2, .int .i64 a3, .int .i64 a4, .int .i64 a5, .int .i64 a6, .int .i64 a7, .int .i64 a8, .int .i64 a9] := by
    simp [Program.keyLits, Tryz.underlying77, Tryz.underlying3, cells_i64s, cells_arr10, List.range_succ, w0, w1, w2, w3, w4, w5, w6, w7, w8, w9]
  obtain ⟨r, hr, hi⟩ := run_equalIn_deep (P := Tryz.prog) 9998 2 77 (by kernel_rfl) w 3 3 (.agg #[.int .i64 a0, .int .i64 a1, .int .i64 a2, .int .i64 a3, .int .i64 a4, .int .i64 a5, .int .i64 a6, .int .i64 a7, .int .i64 a8, .int .i64 a9]) (.agg #[.int .i64 a0, .int .i64 a1, .int .i64 a2, .int .i64 a3, .int .i64 a4, .int .i64 a5, .int .i64 a6, .int .i64 a7, .int .i64 a8, .int .i64 a9]) _ _ (by simp [Value.formed, Tryz.underlying77, cells_arr10]) (by simp [Value.formed, Tryz.underlying77, cells_arr10]) hl hl
  rw [hi.2 rfl] at hr
  exact hr
theorem areaP_bounds {f : Fc} (h : fcB f = true) (v : Int) : 0 ≤ areaP f v ∧ areaP f v ≤ 40000 := by
  obtain ⟨s0, s1⟩ := size_bounds h
  obtain ⟨h0, h1⟩ := heiF_bounds h
  obtain ⟨a, b⟩ := areaJ_bounds f v (heiF f).toNat
  have hm : ((heiF f).toNat : Int) * (f.size.toNat : Int) ≤ 200 * 200 := Int.mul_le_mul (by omega) (by omega) (by omega) (by omega)
  unfold areaP
  omega
theorem areas_form {f : Fc} (h : fcB f = true) : ∃ a0 a1 a2 a3 a4 a5 a6 a7 a8 a9 : Int, areasL f = [a0, a1, a2, a3, a4, a5, a6, a7, a8, a9] ∧ (0 ≤ a0 ∧ a0 ≤ 40000) ∧ (0 ≤ a1 ∧ a1 ≤ 40000) ∧ (0 ≤ a2 ∧ a2 ≤ 40000) ∧ (0 ≤ a3 ∧ a3 ≤ 40000) ∧ (0 ≤ a4 ∧ a4 ≤ 40000) ∧ (0 ≤ a5 ∧ a5 ≤ 40000) ∧ (0 ≤ a6 ∧ a6 ≤ 40000) ∧ (0 ≤ a7 ∧ a7 ≤ 40000) ∧ (0 ≤ a8 ∧ a8 ≤ 40000) ∧ (0 ≤ a9 ∧ a9 ≤ 40000) :=
  ⟨areaP f 0, areaP f 1, areaP f 2, areaP f 3, areaP f 4, areaP f 5, areaP f 6, areaP f 7, areaP f 8, areaP f 9, by simp [areasL, List.range_succ], areaP_bounds h _, areaP_bounds h _, areaP_bounds h _, areaP_bounds h _, areaP_bounds h _, areaP_bounds h _, areaP_bounds h _, areaP_bounds h _, areaP_bounds h _, areaP_bounds h _⟩

set_option maxHeartbeats 8000000 in
set_option maxRecDepth 100000 in
theorem screens_calls (f : Fc) (A : Option Addr) (c : Nat) (w : World) (hg : Gl w) (hit : ItsOk w A f.items) :
    Calls Tryz.prog 16 #[.agg #[.int .i64 f.shape, .int .i64 f.size, .int .i64 f.height, .slice A f.items.length c]] w fun e w' => e = .returned (.bool true) ∧ Below w.heap.size w w' := by
  have HF := hid (FaceAt.new w c hit)
  have HO := hid ((On.start hg).lay (.cells #[.int .i64 f.shape, .int .i64 f.size, .int .i64 f.height, .slice A f.items.length c] 25))
  clear hg hit
  go_enter Tryz.func16, Tryz.ntmps16
  go_wp2_with fail
  generalize w.alloc (.cells #[.int .i64 f.shape, .int .i64 f.size, .int .i64 f.height, .slice A f.items.length c] 25) = W at *
  refine (heavy_calls f A c W (unhid HF).ok).mono ?_
  rintro e w1 ⟨rfl, hb⟩
  have HF := hid ((unhid HF).below hb)
  have HO := hid ((unhid HO).next hb)
  clear hb
  cases hl : heavyF f with
  | true =>
    go_wp2_with fail
    refine (unhid HO).first.mono ?_
    rintro e w9 ⟨rfl, hb2⟩
    have HB2 := hid hb2
    clear hb2
    go_wp2_with fail
    go_ret
    exact ⟨rfl, unhid HB2⟩
  | false =>
    obtain ⟨c0, c1, c2, c3⟩ := (unhid HF).cells
    cases hf : fcB f with
    | false =>
      have HFF := hid hf
      have heq := fun W => eq100 0 0 0 0 0 0 0 0 0 0 (by omega) (by omega) (by omega) (by omega) (by omega) (by omega) (by omega) (by omega) (by omega) (by omega) W
      go_wp2_with fail
      refine (pareas_no f A c w1 (unhid HF).ok (unhid HFF)).mono ?_
      rintro e w2 ⟨rfl, hb⟩
      have HDZ := hid (heap_alloc_new w2 (.cells #[.int .i64 0, .int .i64 0, .int .i64 0, .int .i64 0, .int .i64 0, .int .i64 0, .int .i64 0, .int .i64 0, .int .i64 0, .int .i64 0] 77))
      have hb := hb.trans ((below_alloc w2 (.cells #[.int .i64 0, .int .i64 0, .int .i64 0, .int .i64 0, .int .i64 0, .int .i64 0, .int .i64 0, .int .i64 0, .int .i64 0, .int .i64 0] 77)).mono hb.size)
      go_upto_region 4 with (fail)
      generalize w2.alloc (.cells #[.int .i64 0, .int .i64 0, .int .i64 0, .int .i64 0, .int .i64 0, .int .i64 0, .int .i64 0, .int .i64 0, .int .i64 0, .int .i64 0] 77) = W2 at *
      generalize w2.heap.size = D at *
      have HF := hid ((unhid HF).below hb)
      have HO := hid ((unhid HO).next hb)
      clear hb c0 c1 c2 c3
      obtain ⟨c0, c1, c2, c3⟩ := (unhid HF).cells

      go_wp2_with fail
      refine (pscreens_no f A c W2 (unhid HF).ok (unhid HFF)).mono ?_
      rintro e w3 ⟨rfl, hb⟩
      have HDZ := hid ((hb.block D (Array.getElem?_eq_some_iff.1 (unhid HDZ)).1).trans (unhid HDZ))
      have HF := hid ((unhid HF).below hb)
      have HO := hid ((unhid HO).next hb)
      clear hb c0 c1 c2 c3
      obtain ⟨c0, c1, c2, c3⟩ := (unhid HF).cells

      go_wp2_with fail
      refine (rvalid_calls f A c w3 (unhid HF).ok).mono ?_
      rintro e w4 ⟨rfl, hb⟩
      rw [unhid HFF]
      have HDZ := hid ((hb.block D (Array.getElem?_eq_some_iff.1 (unhid HDZ)).1).trans (unhid HDZ))
      have HF := hid ((unhid HF).below hb)
      have HO := hid ((unhid HO).next hb)
      clear hb c0 c1 c2 c3
      obtain ⟨c0, c1, c2, c3⟩ := (unhid HF).cells

      go_wp2_with (refine wpList_load_row rfl 77 (.tmp 3) rfl D rfl 77 #[.int .i64 0, .int .i64 0, .int .i64 0, .int .i64 0, .int .i64 0, .int .i64 0, .int .i64 0, .int .i64 0, .int .i64 0, .int .i64 0] (0, 0) _ (unhid HDZ) Tryz.underlying77 rfl z10_size ?_)
      refine (unhid HO).first.mono ?_
      rintro e w9 ⟨rfl, hb2⟩
      have HB2 := hid hb2
      clear hb2
      go_wp2_with fail
      go_ret
      exact ⟨rfl, unhid HB2⟩
    | true =>
      have HFF := hid hf
      obtain ⟨a0, a1, a2, a3, a4, a5, a6, a7, a8, a9, HA, q0, q1, q2, q3, q4, q5, q6, q7, q8, q9⟩ := areas_form hf
      have heq := fun W => eq100 a0 a1 a2 a3 a4 a5 a6 a7 a8 a9 q0 q1 q2 q3 q4 q5 q6 q7 q8 q9 W
      have hsl := screensK_len f 8
      have hpa := pareas_calls f A c w1 (unhid HF).ok hf
      rw [HA] at hpa
      have HPA := hid (show Calls Tryz.prog 54 #[.agg #[.int .i64 f.shape, .int .i64 f.size, .int .i64 f.height, .slice A f.items.length c]] w1 fun e w' => e = .returned (.tuple #[.agg #[.int .i64 a0, .int .i64 a1, .int .i64 a2, .int .i64 a3, .int .i64 a4, .int .i64 a5, .int .i64 a6, .int .i64 a7, .int .i64 a8, .int .i64 a9], .int .i64 0]) ∧ Below w1.heap.size w1 w' from hpa)
      have HRA := hid (show ∀ (A2 A3 : Option Addr) (k2 k3 : Nat) (W : World), Rd W A2 (ints (dotL f f.items.length)) → Calls Tryz.prog 56 #[.agg #[.int .i64 f.size, .int .i64 (heiF f), .slice A2 (numD f) k2, .slice A3 (numD f) k3]] W fun e w' => e = .returned (.agg #[.int .i64 a0, .int .i64 a1, .int .i64 a2, .int .i64 a3, .int .i64 a4, .int .i64 a5, .int .i64 a6, .int .i64 a7, .int .i64 a8, .int .i64 a9]) ∧ Below W.heap.size W w' from fun A2 A3 k2 k3 W hr => by
        have h := rareas_calls f A2 A3 k2 k3 W hf hr
        rw [HA] at h
        exact h)
      clear hf hpa HA q0 q1 q2 q3 q4 q5 q6 q7 q8 q9
      go_wp2_with fail
      refine (unhid HPA).mono ?_
      rintro e w2 ⟨rfl, hb⟩
      have HD := hid (heap_alloc_new w2 (.cells #[.int .i64 a0, .int .i64 a1, .int .i64 a2, .int .i64 a3, .int .i64 a4, .int .i64 a5, .int .i64 a6, .int .i64 a7, .int .i64 a8, .int .i64 a9] 77))
      have hb := hb.trans ((below_alloc w2 (.cells #[.int .i64 a0, .int .i64 a1, .int .i64 a2, .int .i64 a3, .int .i64 a4, .int .i64 a5, .int .i64 a6, .int .i64 a7, .int .i64 a8, .int .i64 a9] 77)).mono hb.size)
      go_upto_region 4 with (fail)
      generalize w2.alloc (.cells #[.int .i64 a0, .int .i64 a1, .int .i64 a2, .int .i64 a3, .int .i64 a4, .int .i64 a5, .int .i64 a6, .int .i64 a7, .int .i64 a8, .int .i64 a9] 77) = W2 at *
      generalize w2.heap.size = D at *
      have HF := hid ((unhid HF).below hb)
      have HO := hid ((unhid HO).next hb)
      clear hb c0 c1 c2 c3 HPA
      obtain ⟨c0, c1, c2, c3⟩ := (unhid HF).cells

      go_wp2_with fail
      refine (pscreens_calls f A c W2 (unhid HF).ok (unhid HFF)).mono ?_
      rintro e w3 ⟨hb, A1, k1, rfl, hr1⟩
      have HR1 := hid hr1
      have HD := hid ((hb.block D (Array.getElem?_eq_some_iff.1 (unhid HD)).1).trans (unhid HD))
      clear hr1
      have HF := hid ((unhid HF).below hb)
      have HO := hid ((unhid HO).next hb)
      clear hb c0 c1 c2 c3
      obtain ⟨c0, c1, c2, c3⟩ := (unhid HF).cells

      go_wp2_with fail
      refine (rvalid_calls f A c w3 (unhid HF).ok).mono ?_
      rintro e w4 ⟨rfl, hb⟩
      rw [unhid HFF]
      have HR1 := hid ((unhid HR1).below hb)
      have HD := hid ((hb.block D (Array.getElem?_eq_some_iff.1 (unhid HD)).1).trans (unhid HD))
      have HF := hid ((unhid HF).below hb)
      have HO := hid ((unhid HO).next hb)
      clear hb c0 c1 c2 c3
      obtain ⟨c0, c1, c2, c3⟩ := (unhid HF).cells

      go_wp2_with fail
      refine (paint_calls f A c w4 (unhid HF).ok (unhid HFF)).mono ?_
      rintro e w5 ⟨hb, A2, A3, k2, k3, rfl, hr2, -⟩
      have HR2 := hid (hr2.below (below_alloc w5 (.cells #[.int .i64 f.size, .int .i64 (heiF f), .slice A2 (numD f) k2, .slice A3 (numD f) k3] 36)))
      have HPB := hid (heap_alloc_new w5 (.cells #[.int .i64 f.size, .int .i64 (heiF f), .slice A2 (numD f) k2, .slice A3 (numD f) k3] 36))
      have hb := hb.trans ((below_alloc w5 (.cells #[.int .i64 f.size, .int .i64 (heiF f), .slice A2 (numD f) k2, .slice A3 (numD f) k3] 36)).mono hb.size)
      have HR1 := hid ((unhid HR1).below hb)
      have HD := hid ((hb.block D (Array.getElem?_eq_some_iff.1 (unhid HD)).1).trans (unhid HD))
      clear hr2
      go_upto_region 8 with (fail)
      generalize w5.alloc (.cells #[.int .i64 f.size, .int .i64 (heiF f), .slice A2 (numD f) k2, .slice A3 (numD f) k3] 36) = W5 at *
      generalize w5.heap.size = P at *
      have HF := hid ((unhid HF).below hb)
      have HO := hid ((unhid HO).next hb)
      clear hb c0 c1 c2 c3
      obtain ⟨c0, c1, c2, c3⟩ := (unhid HF).cells

      have hSF : ∀ w' : World, Below W5.heap.size W5 w' → (w'.cell? ⟨D, 0, none⟩ = some (.int .i64 a0) ∧ w'.cell? ⟨D, 1, none⟩ = some (.int .i64 a1) ∧ w'.cell? ⟨D, 2, none⟩ = some (.int .i64 a2) ∧ w'.cell? ⟨D, 3, none⟩ = some (.int .i64 a3) ∧ w'.cell? ⟨D, 4, none⟩ = some (.int .i64 a4) ∧ w'.cell? ⟨D, 5, none⟩ = some (.int .i64 a5) ∧ w'.cell? ⟨D, 6, none⟩ = some (.int .i64 a6) ∧ w'.cell? ⟨D, 7, none⟩ = some (.int .i64 a7) ∧ w'.cell? ⟨D, 8, none⟩ = some (.int .i64 a8) ∧ w'.cell? ⟨D, 9, none⟩ = some (.int .i64 a9) ∧ w'.cell? ⟨P, 0, none⟩ = some (.int .i64 f.size) ∧ w'.cell? ⟨P, 1, none⟩ = some (.int .i64 (heiF f)) ∧ w'.cell? ⟨P, 2, none⟩ = some (.slice A2 (numD f) k2) ∧ w'.cell? ⟨P, 3, none⟩ = some (.slice A3 (numD f) k3)) := fun w' hb => by
        have hd := (hb.block D (Array.getElem?_eq_some_iff.1 (unhid HD)).1).trans (unhid HD)
        have hp := (hb.block P (Array.getElem?_eq_some_iff.1 (unhid HPB)).1).trans (unhid HPB)
        exact ⟨cell_of_row _ _ _ _ _ _ hd, cell_of_row _ _ _ _ _ _ hd, cell_of_row _ _ _ _ _ _ hd, cell_of_row _ _ _ _ _ _ hd, cell_of_row _ _ _ _ _ _ hd, cell_of_row _ _ _ _ _ _ hd, cell_of_row _ _ _ _ _ _ hd, cell_of_row _ _ _ _ _ _ hd, cell_of_row _ _ _ _ _ _ hd, cell_of_row _ _ _ _ _ _ hd, cell_of_row _ _ _ _ _ _ hp, cell_of_row _ _ _ _ _ _ hp, cell_of_row _ _ _ _ _ _ hp, cell_of_row _ _ _ _ _ _ hp⟩
      have HSF := hid hSF
      clear hSF c0 c1 c2 c3
      have HRS := hid (fun (W : World) (hr : Rd W A2 (ints (dotL f f.items.length))) => rscreens_calls f A2 A3 k2 k3 W (unhid HFF) hr)
      generalize screensK f 8 = R at *
      refine wp_region_noPanic ?_
      refine wp_region_E (S := fun w' => w'.cell? ⟨D, 0, none⟩ = some (.int .i64 a0) ∧ w'.cell? ⟨D, 1, none⟩ = some (.int .i64 a1) ∧ w'.cell? ⟨D, 2, none⟩ = some (.int .i64 a2) ∧ w'.cell? ⟨D, 3, none⟩ = some (.int .i64 a3) ∧ w'.cell? ⟨D, 4, none⟩ = some (.int .i64 a4) ∧ w'.cell? ⟨D, 5, none⟩ = some (.int .i64 a5) ∧ w'.cell? ⟨D, 6, none⟩ = some (.int .i64 a6) ∧ w'.cell? ⟨D, 7, none⟩ = some (.int .i64 a7) ∧ w'.cell? ⟨D, 8, none⟩ = some (.int .i64 a8) ∧ w'.cell? ⟨D, 9, none⟩ = some (.int .i64 a9) ∧ w'.cell? ⟨P, 0, none⟩ = some (.int .i64 f.size) ∧ w'.cell? ⟨P, 1, none⟩ = some (.int .i64 (heiF f)) ∧ w'.cell? ⟨P, 2, none⟩ = some (.slice A2 (numD f) k2) ∧ w'.cell? ⟨P, 3, none⟩ = some (.slice A3 (numD f) k3)) 21 22 rfl (by kernel_rfl) (by kernel_rfl) ((unhid HSF) _ (Below.drew (Below.refl _ _))) ?_
      intro hSE
      (refine WE_take (i := 0) (v := ?_) rfl (by kernel_rfl) (by decide) (by kernel_rfl) (by kernel_rfl) (fun _ _ _ h => h) (by rfl) hSE ?_ ?_; rotate_left; (focus (intro w hSw; (try dsimp only at hSw); go_simp; (try with_reducible rfl))); simp only [Act.put, List.setIfInBounds_toArray, List.set_cons_zero, List.set_cons_succ])
      (refine WE_take (i := 1) (v := ?_) rfl (by kernel_rfl) (by decide) (by kernel_rfl) (by kernel_rfl) (fun _ _ _ h => h) (by rfl) hSE ?_ ?_; rotate_left; (focus (intro w hSw; (try dsimp only at hSw); go_simp; (try with_reducible rfl))); simp only [Act.put, List.setIfInBounds_toArray, List.set_cons_zero, List.set_cons_succ])
      (refine WE_take (i := 2) (v := ?_) rfl (by kernel_rfl) (by decide) (by kernel_rfl) (by kernel_rfl) (fun _ _ _ h => h) (by rfl) hSE ?_ ?_; rotate_left; (focus (intro w hSw; (try dsimp only at hSw); go_simp; (try with_reducible rfl))); simp only [Act.put, List.setIfInBounds_toArray, List.set_cons_zero, List.set_cons_succ])
      (refine WE_take (i := 3) (v := ?_) rfl (by kernel_rfl) (by decide) (by kernel_rfl) (by kernel_rfl) (fun _ _ _ h => h) (by rfl) hSE ?_ ?_; rotate_left; (focus (intro w hSw; (try dsimp only at hSw); go_simp; (try with_reducible rfl))); simp only [Act.put, List.setIfInBounds_toArray, List.set_cons_zero, List.set_cons_succ])
      (refine WE_take (i := 4) (v := ?_) rfl (by kernel_rfl) (by decide) (by kernel_rfl) (by kernel_rfl) (fun _ _ _ h => h) (by rfl) hSE ?_ ?_; rotate_left; (focus (intro w hSw; (try dsimp only at hSw); go_simp; (try with_reducible rfl))); simp only [Act.put, List.setIfInBounds_toArray, List.set_cons_zero, List.set_cons_succ])
      (refine WE_take (i := 5) (v := ?_) rfl (by kernel_rfl) (by decide) (by kernel_rfl) (by kernel_rfl) (fun _ _ _ h => h) (by rfl) hSE ?_ ?_; rotate_left; (focus (intro w hSw; (try dsimp only at hSw); go_simp; (try with_reducible rfl))); simp only [Act.put, List.setIfInBounds_toArray, List.set_cons_zero, List.set_cons_succ])
      (refine WE_take (i := 6) (v := ?_) rfl (by kernel_rfl) (by decide) (by kernel_rfl) (by kernel_rfl) (fun _ _ _ h => h) (by rfl) hSE ?_ ?_; rotate_left; (focus (intro w hSw; (try dsimp only at hSw); go_simp; (try with_reducible rfl))); simp only [Act.put, List.setIfInBounds_toArray, List.set_cons_zero, List.set_cons_succ])
      (refine WE_take (i := 7) (v := ?_) rfl (by kernel_rfl) (by decide) (by kernel_rfl) (by kernel_rfl) (fun _ _ _ h => h) (by rfl) hSE ?_ ?_; rotate_left; (focus (intro w hSw; (try dsimp only at hSw); go_simp; (try with_reducible rfl))); simp only [Act.put, List.setIfInBounds_toArray, List.set_cons_zero, List.set_cons_succ])
      (refine WE_take (i := 8) (v := ?_) rfl (by kernel_rfl) (by decide) (by kernel_rfl) (by kernel_rfl) (fun _ _ _ h => h) (by rfl) hSE ?_ ?_; rotate_left; (focus (intro w hSw; (try dsimp only at hSw); go_simp; (try with_reducible rfl))); simp only [Act.put, List.setIfInBounds_toArray, List.set_cons_zero, List.set_cons_succ])
      (refine WE_one (i := 9) rfl (by decide) (by kernel_rfl) ?_; intro K hK)
      go_simp
      go_at_call 56
      refine ((unhid HRA) A2 A3 k2 k3 _ ((unhid HR2).below (Below.drew (Below.refl _ _)))).mono ?_
      rintro e w6 ⟨rfl, hb6⟩
      have hb56 : Below W5.heap.size W5 w6 := (Below.drew (Below.refl _ _)).trans hb6
      refine hK.out _ _ ((unhid HSF) _ hb56) ?_
      clear hSE hK K
      intro hSE
      (try simp only [Act.put, List.setIfInBounds_toArray, List.set_cons_zero, List.set_cons_succ])
      have heq6 := heq
      (refine WE_take (i := 10) (v := ?_) rfl (by kernel_rfl) (by decide) (by kernel_rfl) (by kernel_rfl) (fun _ _ _ h => h) (by rfl) hSE ?_ ?_; rotate_left; (focus (intro w hSw; (try dsimp only at hSw); go_simp; (try with_reducible rfl))); simp only [Act.put, List.setIfInBounds_toArray, List.set_cons_zero, List.set_cons_succ])
      (refine WE_take (i := 11) (v := ?_) rfl (by kernel_rfl) (by decide) (by kernel_rfl) (by kernel_rfl) (fun _ _ _ h => h) (by rfl) hSE ?_ ?_; rotate_left; (focus (intro w hSw; (try dsimp only at hSw); go_simp; (try with_reducible rfl))); simp only [Act.put, List.setIfInBounds_toArray, List.set_cons_zero, List.set_cons_succ])
      (refine WE_take (i := 12) (v := ?_) rfl (by kernel_rfl) (by decide) (by kernel_rfl) (by kernel_rfl) (fun _ _ _ h => h) (by rfl) hSE ?_ ?_; rotate_left; (focus (intro w hSw; (try dsimp only at hSw); go_simp; (try with_reducible rfl))); simp only [Act.put, List.setIfInBounds_toArray, List.set_cons_zero, List.set_cons_succ])
      (refine WE_take (i := 13) (v := ?_) rfl (by kernel_rfl) (by decide) (by kernel_rfl) (by kernel_rfl) (fun _ _ _ h => h) (by rfl) hSE ?_ ?_; rotate_left; (focus (intro w hSw; (try dsimp only at hSw); go_simp; (try with_reducible rfl))); simp only [Act.put, List.setIfInBounds_toArray, List.set_cons_zero, List.set_cons_succ])
      (refine WE_take (i := 14) (v := ?_) rfl (by kernel_rfl) (by decide) (by kernel_rfl) (by kernel_rfl) (fun _ _ _ h => h) (by rfl) hSE ?_ ?_; rotate_left; (focus (intro w hSw; (try dsimp only at hSw); go_simp; (try with_reducible rfl))); simp only [Act.put, List.setIfInBounds_toArray, List.set_cons_zero, List.set_cons_succ])
      (refine WE_one (i := 15) rfl (by decide) (by kernel_rfl) ?_; intro K hK)
      go_simp
      go_at_call 57
      refine ((unhid HRS) w6 ((unhid HR2).below hb56)).mono ?_
      rintro e w7 ⟨hb7, A4, k4, rfl, hr4⟩
      have hb57 := hb56.trans (hb7.mono hb56.size)
      refine hK.out _ _ ((unhid HSF) _ hb57) ?_
      clear hSE hK K
      intro hSE
      (try simp only [Act.put, List.setIfInBounds_toArray, List.set_cons_zero, List.set_cons_succ])
      (refine WE_one (i := 16) rfl (by decide) (by kernel_rfl) ?_; intro K hK)
      go_simp
      go_at_call 48
      refine (sameInts_same R A1 A4 k1 k4 w7 ((unhid HR1).below hb57) hr4 (by omega)).mono ?_
      rintro e w8 ⟨rfl, hb8⟩
      have hb58 := hb57.trans (hb8.mono hb57.size)
      refine hK.out _ _ ((unhid HSF) _ hb58) ?_
      clear hSE hK K
      intro hSE
      (try simp only [Act.put, List.setIfInBounds_toArray, List.set_cons_zero, List.set_cons_succ])
      (refine WE_take (i := 17) (v := ?_) rfl (by kernel_rfl) (by decide) (by kernel_rfl) (by kernel_rfl) (fun _ _ _ h => h) (by rfl) hSE ?_ ?_; rotate_left; (focus (intro w hSw; (try dsimp only at hSw); go_simp; (try with_reducible rfl))); simp only [Act.put, List.setIfInBounds_toArray, List.set_cons_zero, List.set_cons_succ])
      (refine WE_take (i := 18) (v := ?_) rfl (by kernel_rfl) (by decide) (by kernel_rfl) (by kernel_rfl) (fun _ _ _ h => h) (by rfl) hSE ?_ ?_; rotate_left; (focus (intro w hSw; (try dsimp only at hSw); go_simp; (try with_reducible rfl))); simp only [Act.put, List.setIfInBounds_toArray, List.set_cons_zero, List.set_cons_succ])
      (refine WE_one (i := 19) rfl (by decide) (by kernel_rfl) ?_; intro K hK)
      go_simp
      go_at_call 20
      refine (first_calls w8 ((unhid HO).next hb58).gl).mono ?_
      rintro e w9 ⟨rfl, hb9⟩
      have hs9 : Below W5.heap.size W5 w9 := hb58.trans (hb9.mono hb58.size)
      refine hK.out _ _ ((unhid HSF) _ hs9) ?_
      clear hSE hK K
      intro hSE
      (try simp only [Act.put, List.setIfInBounds_toArray, List.set_cons_zero, List.set_cons_succ])
      (refine WE_take (i := 20) (v := ?_) rfl (by kernel_rfl) (by decide) (by kernel_rfl) (by kernel_rfl) (fun _ _ _ h => h) (by rfl) hSE ?_ ?_; rotate_left; (focus (intro w hSw; (try dsimp only at hSw); go_simp; (try with_reducible rfl))); simp only [Act.put, List.setIfInBounds_toArray, List.set_cons_zero, List.set_cons_succ])
      (refine WE_last rfl (by kernel_rfl) (by kernel_rfl) (by kernel_rfl) ?_; intro K hK; go_simp; refine hK.out _ _ (NoPanic.normal ?_); clear hK K)
      have HB9 := hid ((unhid HO).next hs9).bel
      clear hb9
      go_wp2_with fail
      go_ret
      exact ⟨rfl, unhid HB9⟩
end Go.Proofs.YtmagidoodlkeoaaGreatDoor
