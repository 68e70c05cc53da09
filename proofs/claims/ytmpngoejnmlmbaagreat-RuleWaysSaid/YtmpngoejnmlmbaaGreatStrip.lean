/-
  What holds on each metre: package rule's stripOf.
-/
import Derived.Test.YtmpngoejnmlmbaaGreatEvents2
import Derived.Deep.OwnRows
set_option linter.unusedSimpArgs false
set_option linter.unusedVariables false
namespace Go.Proofs.YtmpngoejnmlmbaaGreat
open Go.RowKit

def advP : List (Int × Int) → Int → Nat → Int → Int × Nat
  | [], v, n, _ => (v, n)
  | e :: t, v, n, k => if e.1 ≤ k then advP t e.2 (n + 1) k else (v, n)
def stStep (ev : List (Int × Int)) (len dir : Int) (st : (Int × Nat) × List Int) (k : Nat) : (Int × Nat) × List Int :=
  (advP (ev.drop st.1.2) st.1.1 st.1.2 k, st.2.set (metreI len dir k).toNat (advP (ev.drop st.1.2) st.1.1 st.1.2 k).1)
def stRun (ev : List (Int × Int)) (len : Nat) (dir : Int) (k : Nat) : (Int × Nat) × List Int := (List.range k).foldl (stStep ev len dir) ((0, 0), List.replicate len 0)
def stripP (ev : List (Int × Int)) (len : Nat) (dir : Int) : List Int := (stRun ev len dir len).2
theorem stRun_succ (ev : List (Int × Int)) (len : Nat) (dir : Int) (k : Nat) : stRun ev len dir (k + 1) = stStep ev len dir (stRun ev len dir k) k := by
  rw [stRun, List.range_succ, List.foldl_append]; rfl
theorem stRun_len (ev : List (Int × Int)) (len : Nat) (dir : Int) (k : Nat) : (stRun ev len dir k).2.length = len := by
  induction k with
  | zero => simp [stRun]
  | succ k ih => rw [stRun_succ, stStep]; simpa using ih
theorem advP_le (t : List (Int × Int)) (v : Int) (n : Nat) (k : Int) : (advP t v n k).2 ≤ n + t.length := by
  induction t generalizing v n with
  | nil => simp [advP]
  | cons e t ih =>
    rw [advP]
    split
    · have := ih e.2 (n + 1); simp; omega
    · simp
theorem stRun_next (ev : List (Int × Int)) (len : Nat) (dir : Int) (k : Nat) : (stRun ev len dir k).1.2 ≤ ev.length := by
  induction k with
  | zero => simp [stRun]
  | succ k ih =>
    rw [stRun_succ, stStep]
    have := advP_le (ev.drop (stRun ev len dir k).1.2) (stRun ev len dir k).1.1 (stRun ev len dir k).1.2 k
    simp only [List.length_drop] at this
    show (advP _ _ _ _).2 ≤ _
    omega
theorem advP_on {ev : List (Int × Int)} {v : Int} {n : Nat} {k : Int} (hn : n < ev.length) (h : ev[n].1 ≤ k) : advP (ev.drop n) v n k = advP (ev.drop (n + 1)) ev[n].2 (n + 1) k := by
  rw [List.drop_eq_getElem_cons hn, advP, if_pos h]
theorem advP_off {ev : List (Int × Int)} {v : Int} {n : Nat} {k : Int} (h : ∀ hn : n < ev.length, ¬ ev[n].1 ≤ k) : advP (ev.drop n) v n k = (v, n) := by
  rcases Nat.lt_or_ge n ev.length with hn | hn
  · rw [List.drop_eq_getElem_cons hn, advP, if_neg (h hn)]
  · rw [List.drop_eq_nil_of_le hn, advP]
theorem evs_cells {w : World} {b off : Nat} {l : List (Int × Int)} (h : ∀ j u, (evs l)[j]? = some u → w.cell? ⟨b, off + j, none⟩ = some u) {k : Nat} (hk : k < l.length) :
    w.cell? ⟨b, off + k * 2, none⟩ = some (.int .i64 l[k].1) ∧ w.cell? ⟨b, off + k * 2 + 1, none⟩ = some (.int .i64 l[k].2) :=
  ⟨h _ _ (flat_at (f := evC) (K := 2) (fun _ => rfl) l k 0 hk (by omega)), h _ _ (flat_at (f := evC) (K := 2) (fun _ => rfl) l k 1 hk (by omega))⟩
theorem evs_ne {l : List (Int × Int)} {k : Nat} (h : k < l.length) : evs l ≠ [] := flat_ne (f := evC) (K := 2) (fun _ => rfl) (by omega) h
theorem metreI_lt {len dir k : Int} (h0 : 0 ≤ k) (h1 : k < len) : 0 ≤ metreI len dir k ∧ metreI len dir k < len := by unfold metreI; split <;> omega

theorem rowOk_of {len hour dir : Int} {l : List Sg} {R : List Mt} (h : IsRow len hour dir l R) (hs : ∀ s ∈ l, (0 ≤ s.chain ∧ s.chain ≤ len) ∧ 0 ≤ s.val ∧ s.val ≤ 100000) : RowOk len R := by
  intro m hm
  have hm' := h.perm.mem_iff.1 hm
  simp only [selP, List.mem_map, List.mem_filter] at hm'
  obtain ⟨s, ⟨hs1, -⟩, rfl⟩ := hm'
  have := hs s hs1
  refine ⟨?_, ?_, this.2.1, this.2.2⟩ <;> (show _ ≤ _; dsimp only; unfold distI; split <;> omega)

theorem rd_alloc_set {w : World} {A : Option Addr} {xs : List Value} {g : Nat} (h : Rd w A xs) (hf : ∀ a, A = some a → g + 1 ≤ a.block) (i : Nat) (u : Value) (o : Obj) : Rd ((w.setCell ⟨g, i, none⟩ u).alloc o) A xs := by
  refine Rd.alloc (fun hx => ?_) o
  obtain ⟨b, off, rfl, hb, hc⟩ := h hx
  have hfb := hf _ rfl
  dsimp only at hfb
  refine ⟨b, off, rfl, by simpa [World.setCell] using hb, fun j u' hu => ?_⟩
  rw [← hc j u' hu]
  exact World.cell?_of_block (block_set_other _ _ (by dsimp only; omega))

set_option maxHeartbeats 4000000 in
set_option maxRecDepth 100000 in
theorem stripOf_calls (n : Nat) (A : Option Addr) (js : List Int) (c : Nat) (A2 : Option Addr) (l : List Sg) (c2 : Nat) (hour dir topic : Int) (w : World) (hl : LnOk w A js) (hj : ∀ j ∈ js, 0 ≤ j ∧ j ≤ n) (hlen : (n : Int) ≤ 100000)
    (hs : SgsOk w A2 l) (hl100 : l.length ≤ 100000000000) (hch : ∀ s ∈ l, (0 ≤ s.chain ∧ s.chain ≤ n) ∧ 0 ≤ s.val ∧ s.val ≤ 100000) :
    Calls Tryz.prog 40 #[.agg #[.int .i64 n, .slice A js.length c], .slice A2 l.length c2, .int .i64 hour, .int .i64 dir, .int .i64 topic] w fun e w' =>
      ∃ (A' : Option Addr) (R : List Mt), IsRow n hour dir l R ∧ e = .returned (.slice A' n n) ∧ Rd w' A' (ints (stripP (eventsP n js R dir topic) n dir)) ∧ Below w.heap.size w w' ∧ ∀ a, A' = some a → w.heap.size ≤ a.block := by
  have HL := hid hl
  have HJ := hid hj
  have HS := hid hs
  have HCH := hid hch
  have HCC := hid (fun s hs => (hch s hs).1)
  have hsn := hs.n
  have hjn := hl.n
  clear hl hj hs hch
  have hmk : ∀ W : World, (Instr.makeSlice 83 (.int .i64 (n : Int)) (.int .i64 (n : Int))).run Tryz.prog W = .ok (.slice (some ⟨W.heap.size, 0, none⟩) n n) (W.alloc (.cells (madeCells #[.int .i64 0] n) 3)) := fun W =>
    run_make_row' 83 3 (.int .i64 0) 8 Tryz.underlying83 info_int rfl .i64 .i64 n (by omega) (by omega) W
  go_enter Tryz.func40, Tryz.ntmps40
  go_wp2_with fail
  have hWl : ((w.alloc (.cells #[.int .i64 n, .slice A js.length c] 24)).alloc (.cells (madeCells #[.int .i64 0] n) 3)).heap[w.heap.size]? = some (.cells #[.int .i64 n, .slice A js.length c] 24 (0, 0)) := by
    rw [Below.heap_alloc (w.alloc (.cells #[.int .i64 n, .slice A js.length c] 24)) _ _ (by simp)]; exact heap_alloc_new w _
  have hWm : ((w.alloc (.cells #[.int .i64 n, .slice A js.length c] 24)).alloc (.cells (madeCells #[.int .i64 0] n) 3)).heap[w.heap.size + 1]? = some (.cells (ints (List.replicate n 0)).toArray 3 (0, 0)) := by
    have h := heap_alloc_new (w.alloc (.cells #[.int .i64 n, .slice A js.length c] 24)) (.cells (madeCells #[.int .i64 0] n) 3)
    have e : (ints (List.replicate n 0)).toArray = madeCells #[.int .i64 0] n := by
      apply Array.toList_inj.1; rw [toList_madeCells_one]; simp [ints]
    rw [e]
    simpa using h
  have hbW : Below w.heap.size w ((w.alloc (.cells #[.int .i64 n, .slice A js.length c] 24)).alloc (.cells (madeCells #[.int .i64 0] n) 3)) := below_alloc' (below_alloc _ _) _
  have hszW : ((w.alloc (.cells #[.int .i64 n, .slice A js.length c] 24)).alloc (.cells (madeCells #[.int .i64 0] n) 3)).heap.size = w.heap.size + 2 := by simp
  generalize ((w.alloc (.cells #[.int .i64 n, .slice A js.length c] 24)).alloc (.cells (madeCells #[.int .i64 0] n) 3)) = W at *
  have l0 := cell_of_row _ w.heap.size 0 _ _ _ hWl
  have l1 := cell_of_row _ w.heap.size 1 _ _ _ hWl
  have HWL := hid hWl
  have HWM := hid hWm
  have HSZ := hid hszW
  clear hWl hWm hszW hmk
  go_region_held3 (fun w' => w'.cell? ⟨w.heap.size, 0, none⟩ = some (.int .i64 n) ∧ w'.cell? ⟨w.heap.size, 1, none⟩ = some (.slice A js.length c)) (first | assumption | go_keep)
    (first
      | (go_at_call 49; refine (rowOf_calls n A js.length c A2 l c2 hour dir _ ?_ hl100 hlen (unhid HCC)).mono ?_; (exact ((unhid HS).below hbW).below (by first | exact Below.refl _ _ | exact Below.drew (Below.refl _ _))); rintro e w2 ⟨A3, c3, R, rfl, hrow, hrd, hb2⟩; have d0 := (hb2.cell (p := ⟨w.heap.size, 0, none⟩) (by simp; rw [unhid HSZ]; omega)).trans l0; have d1 := (hb2.cell (p := ⟨w.heap.size, 1, none⟩) (by simp; rw [unhid HSZ]; omega)).trans l1)
      | (go_at_call 52; refine (events_calls n A js c A3 R c3 dir topic _ ?_ (unhid HJ) hlen hrd ?_ ?_).mono ?_; (exact ((unhid HL).below hbW).below (⟨hb2.os, hb2.tape, hb2.output, hb2.size, hb2.block⟩ : Below W.heap.size W _)); (have := selP_len n hour dir l; have := hrow.perm.length_eq; omega); (exact rowOk_of hrow (unhid HCH)); rintro e w3 ⟨A4, c4, rfl, hrd4, hfr, hb3⟩; have e0 := (hb3.cell (p := ⟨w.heap.size, 0, none⟩) (Nat.lt_of_lt_of_le (by simp; rw [unhid HSZ]; omega) hb2.size)).trans d0; have e1 := (hb3.cell (p := ⟨w.heap.size, 1, none⟩) (Nat.lt_of_lt_of_le (by simp; rw [unhid HSZ]; omega) hb2.size)).trans d1))
  have hbw3 : Below w.heap.size w w3 := (hbW.trans (show Below w.heap.size W w2 from (⟨hb2.os, hb2.tape, hb2.output, hb2.size, hb2.block⟩ : Below W.heap.size W _).mono hbW.size)).trans (hb3.mono (Nat.le_trans hbW.size hb2.size))
  have q0 : w3.heap[w.heap.size]? = _ := ((hb3.block _ (Nat.lt_of_lt_of_le (by simp; rw [unhid HSZ]; omega) hb2.size)).trans (hb2.block _ (by simp; rw [unhid HSZ]; omega))).trans (unhid HWL)
  have q1 : w3.heap[w.heap.size + 1]? = _ := ((hb3.block _ (Nat.lt_of_lt_of_le (by simp; rw [unhid HSZ]; omega) hb2.size)).trans (hb2.block _ (by simp; rw [unhid HSZ]; omega))).trans (unhid HWM)
  have hfr' : ∀ a, A4 = some a → w.heap.size + 2 ≤ a.block := fun a ha => by
    have h1 := hfr a ha
    have h2 := hb2.size
    simp at h2
    rw [unhid HSZ] at h2
    omega
  have hRl : R.length ≤ l.length := by rw [hrow.perm.length_eq]; exact selP_len _ _ _ _
  have hEl : (eventsP n js R dir topic).length ≤ 2 * R.length + 1 := by
    have h1 := evRun_len n js R dir topic R.length
    have h2 := stopP_len (evRun n js R dir topic R.length).1 (evRun n js R dir topic R.length).2 n
    unfold eventsP
    omega
  have HROW := hid hrow
  have HFR := hid hfr'
  generalize hev : eventsP n js R dir topic = ev at *
  have HEV := hid hev
  clear hev hrow hfr hfr' hb2 hb3 hrd hbW HWL HWM HSZ l0 l1 d0 d1 e0 e1
  go_wp2_with fail
  go_loopw [13, 14, 30] (fun v nx i wr => ∃ k : Nat, k ≤ n ∧ i = .int .i64 k ∧ v = .int .i64 (stRun ev n dir k).1.1 ∧ nx = .int .i64 ((stRun ev n dir k).1.2 : Nat) ∧ wr.heap[w.heap.size]? = some (.cells #[.int .i64 n, .slice A js.length c] 24 (0, 0)) ∧
    wr.heap[w.heap.size + 1]? = some (.cells (ints (stRun ev n dir k).2).toArray 3 (0, 0)) ∧ Rd wr A4 (evs ev) ∧ Below w.heap.size w wr) (fun _ _ i _ => n - (intOf i).toNat)
  case atStart => exact ⟨0, Nat.zero_le _, rfl, rfl, rfl, q0, q1, hrd4, hbw3⟩
  case round =>
    obtain ⟨k, hk, rfl, rfl, rfl, p0, p1, hrd5, hbel⟩ := hrel
    have l0 := cell_of_row _ w.heap.size 0 _ _ _ p0
    have l1 := cell_of_row _ w.heap.size 1 _ _ _ p0
    simp at l0 l1
    have hnx := stRun_next ev n dir k
    have hll := stRun_len ev n dir k
    have HSC := hid (stRun_succ ev n dir k)
    generalize hst : stRun ev n dir k = st at *
    obtain ⟨⟨v0, m0⟩, out⟩ := st
    dsimp only at hnx hll p1
    have HST := hid hst
    have HP0 := hid p0
    have HP1 := hid p1
    clear hst p0 p1
    by_cases hlt : k < n
    · have hmi := metreI_lt (len := n) (dir := dir) (k := k) (by omega) (by omega)
      obtain ⟨mi, HMI⟩ := Int.eq_ofNat_of_zero_le hmi.1
      rw [HMI] at hmi
      have hmi2 : mi < n := by omega
      have HMI := hid HMI
      go_wp2_with fail
      go_loop [13, 14] (fun v nx => ∃ (v' : Int) (m : Nat), v = .int .i64 v' ∧ nx = .int .i64 m ∧ m ≤ ev.length ∧ advP (ev.drop m) v' m k = advP (ev.drop m0) v0 m0 k) (fun _ nx => ev.length - (intOf nx).toNat)
      case atStart => exact ⟨v0, m0, rfl, rfl, hnx, rfl⟩
      case round =>
        obtain ⟨v', m, rfl, rfl, hm, hadv⟩ := hrel
        by_cases hml : m < ev.length
        · obtain ⟨b, off, rfl, hb, hc⟩ := hrd5 (evs_ne hml)
          obtain ⟨m1, m2⟩ := evs_cells hc hml
          clear hc
          generalize hx : ev[m] = x at *
          have HX := hid hx
          clear hx
          by_cases hxk : x.1 ≤ k
          · go_wp2_with fail
            go_round
            case rel => exact ⟨x.2, m + 1, rfl, by go_num, by omega, by rw [← hadv, advP_on hml (by rw [unhid HX]; exact hxk), unhid HX]⟩
            case measure => simp [intOf]; omega
          · have HA := hid ((advP_off (v := v') (k := k) (fun h => by rw [unhid HX]; exact hxk)).symm.trans hadv)
            go_wp2_with fail
            refine (metre_calls n A js.length c dir k _ (by omega) (by omega) hlen).mono ?_
            rintro e w5 ⟨rfl, rfl⟩
            rw [unhid HMI]
            have hsz := (Array.getElem?_eq_some_iff.1 (unhid HP1)).1
            have g0 : wr.cell? ⟨w.heap.size + 1, mi, none⟩ = some (.int .i64 (out[mi]'(by omega))) := by rw [cell_of_row _ _ _ _ _ _ (unhid HP1)]; simp [ints, List.getElem?_eq_getElem (show mi < out.length by omega)]
            have g1 : wr.frozen? ⟨w.heap.size + 1, mi, none⟩ = false := by simp [World.frozen?, unhid HP1]
            have HNX := hid (show stRun ev n dir (k + 1) = ((v', m), out.set mi v') by rw [unhid HSC, stStep]; simp only [← unhid HA, unhid HMI]; rfl)
            go_wp2_with fail
            go_roundw
            case rel =>
              refine ⟨k + 1, by omega, by go_num, by rw [unhid HNX], by rw [unhid HNX], ?_, ?_, ?_, ?_⟩
              · rw [Below.heap_alloc _ _ _ (by simp; omega), block_set_other _ _ (by omega)]; exact unhid HP0
              · rw [unhid HNX, Below.heap_alloc _ _ _ (by simp; omega), block_set_same (unhid HP1)]; simp [ints, List.map_set]
              · exact rd_alloc_set hrd5 (unhid HFR) _ _ _
              · exact below_alloc' (Below.setCell hbel (by simp) _) _
            case measure => simp [intOf]; omega
        · have HA := hid ((advP_off (v := v') (k := k) (fun h => absurd h hml)).symm.trans hadv)
          go_wp2_with fail
          refine (metre_calls n A js.length c dir k _ (by omega) (by omega) hlen).mono ?_
          rintro e w5 ⟨rfl, rfl⟩
          rw [unhid HMI]
          have hsz := (Array.getElem?_eq_some_iff.1 (unhid HP1)).1
          have g0 : wr.cell? ⟨w.heap.size + 1, mi, none⟩ = some (.int .i64 (out[mi]'(by omega))) := by rw [cell_of_row _ _ _ _ _ _ (unhid HP1)]; simp [ints, List.getElem?_eq_getElem (show mi < out.length by omega)]
          have g1 : wr.frozen? ⟨w.heap.size + 1, mi, none⟩ = false := by simp [World.frozen?, unhid HP1]
          have HNX := hid (show stRun ev n dir (k + 1) = ((v', m), out.set mi v') by rw [unhid HSC, stStep]; simp only [← unhid HA, unhid HMI]; rfl)
          go_wp2_with fail
          go_roundw
          case rel =>
            refine ⟨k + 1, by omega, by go_num, by rw [unhid HNX], by rw [unhid HNX], ?_, ?_, ?_, ?_⟩
            · rw [Below.heap_alloc _ _ _ (by simp; omega), block_set_other _ _ (by omega)]; exact unhid HP0
            · rw [unhid HNX, Below.heap_alloc _ _ _ (by simp; omega), block_set_same (unhid HP1)]; simp [ints, List.map_set]
            · exact rd_alloc_set hrd5 (unhid HFR) _ _ _
            · exact below_alloc' (Below.setCell hbel (by simp) _) _
          case measure => simp [intOf]; omega
    · have hkn : k = n := by omega
      subst hkn
      go_wp2_with fail
      go_ret
      refine ⟨_, R, unhid HROW, rfl, ?_, hbel, fun a ha => by cases ha; simp⟩
      rw [unhid HEV, stripP, unhid HST]
      exact fun _ => ⟨_, 0, rfl, (Array.getElem?_eq_some_iff.1 (unhid HP1)).1, fun j u hu => by rw [Nat.zero_add, cell_of_row _ _ j _ _ _ (unhid HP1)]; simpa using hu⟩

end Go.Proofs.YtmpngoejnmlmbaaGreat
