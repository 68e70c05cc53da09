/-
  Package rule's mustStrip.
-/
import Derived.Test.YtmpngoejnmlmbaaGreatClone
import Derived.Test.YtmpngoejnmlmbaaGreatStrip
import Derived.Test.YtmpngoejnmlmbaaGreatHeld
set_option linter.unusedSimpArgs false
set_option linter.unusedVariables false
namespace Go.Proofs.YtmpngoejnmlmbaaGreat
open Go.RowKit Go.Shelf Go.Sort

theorem rd_set {w : World} {A : Option Addr} {xs : List Value} {g : Nat} (h : Rd w A xs) (hf : ∀ a, A = some a → g + 1 ≤ a.block) (i : Nat) (u : Value) : Rd (w.setCell ⟨g, i, none⟩ u) A xs := by
  intro hx
  obtain ⟨b, off, rfl, hb, hc⟩ := h hx
  have hfb := hf _ rfl
  dsimp only at hfb
  refine ⟨b, off, rfl, by simpa [World.setCell] using hb, fun j u' hu => ?_⟩
  rw [← hc j u' hu]
  exact World.cell?_of_block (block_set_other _ _ (by dsimp only; omega))

/-- What must hold on each metre. -/
def mustS (n : Nat) (ed : List Ed) (hour dir topic : Int) : List Int := (List.range n).map fun m => mustP ed hour dir topic (m : Nat)
@[simp] theorem mustS_len (n : Nat) (ed : List Ed) (hour dir topic : Int) : (mustS n ed hour dir topic).length = n := by simp [mustS]

/-- The painting of the first k edicts, and of the next one up to j. -/
def PaintTo (n : Nat) (L : List Ed) (hour dir topic : Int) (k : Nat) (o : List Int) : Prop := o.length = n ∧ ∀ m, m < n → o[m]? = some (paintAt hour dir topic (m : Nat) (L.take k))
def PaintIn (n : Nat) (L : List Ed) (hour dir topic : Int) (k : Nat) (x : Ed) (j : Int) (o : List Int) : Prop := o.length = n ∧ ∀ m : Nat, m < n → o[m]? = some (if x.fr ≤ m ∧ (m : Int) < j then x.val else paintAt hour dir topic (m : Nat) (L.take k))
theorem PaintTo.zero {n : Nat} {L : List Ed} {hour dir topic : Int} : PaintTo n L hour dir topic 0 (List.replicate n 0) :=
  ⟨by simp, fun m hm => by simp [paintAt, hm]⟩
theorem PaintTo.skip {n : Nat} {L : List Ed} {hour dir topic : Int} {k : Nat} {o : List Int} (h : PaintTo n L hour dir topic k o) (hk : k < L.length) (hn : edOn hour dir topic L[k] = false) : PaintTo n L hour dir topic (k + 1) o :=
  ⟨h.1, fun m hm => by
    rw [h.2 m hm, paintAt_snoc _ _ _ _ _ hk, if_neg]
    intro hh
    unfold edOn at hn
    unfold edHit at hh
    simp at hh
    simp [hh] at hn⟩
theorem PaintTo.start {n : Nat} {L : List Ed} {hour dir topic : Int} {k : Nat} {o : List Int} (h : PaintTo n L hour dir topic k o) (x : Ed) : PaintIn n L hour dir topic k x x.fr o :=
  ⟨h.1, fun m hm => by rw [h.2 m hm, if_neg]; omega⟩
theorem PaintIn.next {n : Nat} {L : List Ed} {hour dir topic : Int} {k : Nat} {x : Ed} {j : Nat} {o : List Int} (h : PaintIn n L hour dir topic k x j o) (hj : x.fr ≤ j) : PaintIn n L hour dir topic k x (j + 1) (o.set j x.val) :=
  ⟨by simp [h.1], fun m hm => by
    by_cases e : m = j
    · subst e; rw [List.getElem?_set_self (by rw [h.1]; exact hm), if_pos ⟨hj, by omega⟩]
    · rw [List.getElem?_set_ne (Ne.symm e), h.2 m hm]
      by_cases h1 : x.fr ≤ m ∧ (m : Int) < j
      · rw [if_pos h1, if_pos ⟨h1.1, by omega⟩]
      · rw [if_neg h1, if_neg (by omega)]⟩
theorem PaintIn.done {n : Nat} {L : List Ed} {hour dir topic : Int} {k : Nat} {j : Int} {o : List Int} (hk : k < L.length) (h : PaintIn n L hour dir topic k L[k] j o) (hj : j = L[k].to) (hon : edOn hour dir topic L[k] = true) : PaintTo n L hour dir topic (k + 1) o :=
  ⟨h.1, fun m hm => by
    rw [h.2 m hm, paintAt_snoc _ _ _ _ _ hk]
    have : (edHit hour dir topic (m : Nat) L[k] = true) ↔ (L[k].fr ≤ m ∧ (m : Int) < j) := by
      unfold edOn at hon; unfold edHit; simp at hon ⊢; subst hj; simp [hon]
    by_cases h1 : L[k].fr ≤ m ∧ (m : Int) < j
    · rw [if_pos h1, if_pos (this.2 h1)]
    · rw [if_neg h1, if_neg (fun h => h1 (this.1 h))]⟩
theorem PaintTo.all {n : Nat} {L ed : List Ed} {hour dir topic : Int} {k : Nat} {o : List Int} (h : PaintTo n L hour dir topic k o) (hk : L.length ≤ k) (hp : L.Perm ed) (hs : L.Pairwise (fun a b => a.num ≤ b.num)) (hn : (ed.map Ed.num).Nodup) (h1 : ∀ e ∈ ed, 1 ≤ e.num) : o = mustS n ed hour dir topic := by
  apply List.ext_getElem?
  intro m
  by_cases hm : m < n
  · rw [h.2 m hm, List.take_of_length_le hk, paint_must hp hs hn h1]
    simp [mustS, hm]
  · rw [List.getElem?_eq_none (by rw [h.1]; omega), List.getElem?_eq_none (by simp; omega)]

set_option maxHeartbeats 4000000 in
set_option maxRecDepth 100000 in
theorem mustStrip_calls (n : Nat) (A : Option Addr) (k c : Nat) (A2 : Option Addr) (ed : List Ed) (c2 : Nat) (hour dir topic : Int) (w : World) (hlen : (n : Int) ≤ 100000) (hr : Rd w A2 (edicts ed)) (hn : ed.length ≤ 1000)
    (hb : ∀ e ∈ ed, (1 ≤ e.num ∧ e.num ≤ 1000000000) ∧ 0 ≤ e.fr ∧ e.fr < e.to ∧ e.to ≤ n) (hnd : (ed.map Ed.num).Nodup) :
    Calls Tryz.prog 43 #[.agg #[.int .i64 n, .slice A k c], .slice A2 ed.length c2, .int .i64 hour, .int .i64 dir, .int .i64 topic] w fun e w' =>
      ∃ (A' : Option Addr), e = .returned (.slice A' n n) ∧ Rd w' A' (ints (mustS n ed hour dir topic)) ∧ Below w.heap.size w w' ∧ ∀ a, A' = some a → w.heap.size ≤ a.block := by
  have HR := hid hr
  have HB := hid hb
  have HND := hid hnd
  clear hr hb hnd
  have hmk : ∀ W : World, (Instr.makeSlice 83 (.int .i64 (n : Int)) (.int .i64 (n : Int))).run Tryz.prog W = .ok (.slice (some ⟨W.heap.size, 0, none⟩) n n) (W.alloc (.cells (madeCells #[.int .i64 0] n) 3)) := fun W =>
    run_make_row' 83 3 (.int .i64 0) 8 Tryz.underlying83 info_int rfl .i64 .i64 n (by omega) (by omega) W
  go_enter Tryz.func43, Tryz.ntmps43
  go_wp2_with fail
  have hWm : ((w.alloc (.cells #[.int .i64 n, .slice A k c] 24)).alloc (.cells (madeCells #[.int .i64 0] n) 3)).heap[w.heap.size + 1]? = some (.cells (ints (List.replicate n 0)).toArray 3 (0, 0)) := by
    have h := heap_alloc_new (w.alloc (.cells #[.int .i64 n, .slice A k c] 24)) (.cells (madeCells #[.int .i64 0] n) 3)
    have e : (ints (List.replicate n 0)).toArray = madeCells #[.int .i64 0] n := by
      apply Array.toList_inj.1; rw [toList_madeCells_one]; simp [ints]
    rw [e]
    simpa using h
  have hbW : Below w.heap.size w ((w.alloc (.cells #[.int .i64 n, .slice A k c] 24)).alloc (.cells (madeCells #[.int .i64 0] n) 3)) := below_alloc' (below_alloc _ _) _
  have hszW : ((w.alloc (.cells #[.int .i64 n, .slice A k c] 24)).alloc (.cells (madeCells #[.int .i64 0] n) 3)).heap.size = w.heap.size + 2 := by simp
  generalize ((w.alloc (.cells #[.int .i64 n, .slice A k c] 24)).alloc (.cells (madeCells #[.int .i64 0] n) 3)) = W at *
  have HWM := hid hWm
  have HSZ := hid hszW
  clear hWm hszW hmk
  refine (cloneEdict_calls A2 ed c2 _ ((unhid HR).below hbW) (by omega)).mono ?_
  rintro e w2 ⟨A3, c3, rfl, hown, hb2⟩
  have hbw2 : Below w.heap.size w w2 := hbW.trans (hb2.mono hbW.size)
  have HWM2 := hid ((hb2.block _ (by rw [unhid HSZ]; omega)).trans (unhid HWM))
  rw [unhid HSZ] at hown
  have hsz2 : w.heap.size + 2 ≤ w2.heap.size := by have := hb2.size; rw [unhid HSZ] at this; exact this
  have HO := hid hown
  clear hown hb2
  go_wp2_with fail
  refine (sortEdict_calls ed (fun e he => by have := unhid HB e he; omega) _ _ _ (unhid HO) (by omega)).mono ?_
  rintro e w3 ⟨rfl, L, hp, hs, hown3, hg3⟩
  have hown2 := unhid HO
  have hbw3 : Below w.heap.size w w3 := by
    refine Below.grown hbw2 hg3 hbw2.size (fun i hi => ?_)
    rcases Nat.lt_or_ge i w.heap.size with h | h
    · exact absurd hi (own_ne hown2 (Or.inl (by omega)))
    · exact h
  have hq1 : w3.heap[w.heap.size + 1]? = some (.cells (ints (List.replicate n 0)).toArray 3 (0, 0)) := (hg3.block _ (by omega) (fun h => own_ne hown2 (g := w.heap.size + 1) (Or.inl (by omega)) h.symm)).trans (unhid HWM2)
  rw [hp.length_eq] at hown3
  obtain ⟨A4, c4, hv4, hrd4, hfr4⟩ := own_slice hown3
  injection hv4 with hA4 _ hc4
  subst hA4 hc4
  have hfr : ∀ a, A3 = some a → w.heap.size + 2 ≤ a.block := fun a ha => hfr4 _ (by rw [ha]; rfl)
  have HP := hid hp
  have HS := hid hs
  have HLN := hid hp.length_eq
  have HFR := hid hfr
  have hLn : L.length ≤ 1000 := by have := hp.length_eq; omega
  clear hown2 hown3 hg3 HO HWM HWM2 hfr hfr4 hp hs hbW hbw2 hsz2
  go_wp2_with fail
  go_loopw [25] (fun i wr => ∃ (k : Nat) (o : List Int), k ≤ L.length ∧ i = .int .i64 k ∧ PaintTo n L hour dir topic k o ∧ wr.heap[w.heap.size + 1]? = some (.cells (ints o).toArray 3 (0, 0)) ∧ Rd wr A3 (edicts L) ∧ Below w.heap.size w wr) (fun i _ => L.length - (intOf i).toNat)
  case atStart => exact ⟨0, _, Nat.zero_le _, rfl, PaintTo.zero, hq1, hrd4, hbw3⟩
  case round =>
    obtain ⟨k, o, hk, rfl, hpt, hq, hrd, hbel⟩ := hrel
    have HPT := hid hpt
    have HQ := hid hq
    have HEL := hid (unhid HLN)
    clear hpt hq
    by_cases hlt : k < L.length
    · have hlt2 : k < ed.length := by have := unhid HLN; omega
      obtain ⟨b, off, rfl, hb, hc⟩ := hrd (edicts_ne hlt)
      obtain ⟨m0, m1, m2, m3, m4, m5, m6, m7⟩ := edicts_cells hc hlt
      clear hc
      have hxb := unhid HB L[k] ((unhid HP).subset (List.getElem_mem hlt))
      have HSK := hid (fun h => (unhid HPT).skip hlt h)
      have HDN := hid (fun (j : Int) (o : List Int) h => PaintIn.done (hour := hour) (dir := dir) (topic := topic) (j := j) (o := o) (n := n) hlt h)
      generalize hx : L[k] = x at *
      have HX := hid hx
      clear hx
      obtain ⟨-, hx0, hx1, hx2⟩ := hxb
      by_cases hon : edOn hour dir topic x = true
      · have hon2 := hon
        unfold edOn at hon2
        simp at hon2
        obtain ⟨⟨⟨g1, g2⟩, g3⟩, g4⟩ := hon2
        have b1 : (x.topic == topic) = true := by simpa using g1
        have b2 : (x.dir == dir) = true := by simpa using g2
        have := decide_eq_true (show x.st ≤ hour by omega)
        have := decide_eq_true (show hour < x.en by omega)
        have HON := hid hon
        have G1 := hid g1
        have G2 := hid g2
        clear hon g1 g2
        go_wp2_with fail
        obtain ⟨fr, hfr0⟩ := Int.eq_ofNat_of_zero_le hx0
        have hE : (wr.alloc (.cells #[.int .i64 x.num, .int .i64 x.topic, .int .i64 x.val, .int .i64 x.dir, .int .i64 x.fr, .int .i64 x.to, .int .i64 x.st, .int .i64 x.en] 93)).heap[wr.heap.size]? = some (.cells #[.int .i64 x.num, .int .i64 x.topic, .int .i64 x.val, .int .i64 x.dir, .int .i64 x.fr, .int .i64 x.to, .int .i64 x.st, .int .i64 x.en] 93 (0, 0)) := heap_alloc_new _ _
        have hq5 : (wr.alloc (.cells #[.int .i64 x.num, .int .i64 x.topic, .int .i64 x.val, .int .i64 x.dir, .int .i64 x.fr, .int .i64 x.to, .int .i64 x.st, .int .i64 x.en] 93)).heap[w.heap.size + 1]? = some (.cells (ints o).toArray 3 (0, 0)) := by
          rw [Below.heap_alloc _ _ _ (Array.getElem?_eq_some_iff.1 (unhid HQ)).1]; exact unhid HQ
        have hB1 : w.heap.size + 1 < wr.heap.size := (Array.getElem?_eq_some_iff.1 (unhid HQ)).1
        have hrd5 := hrd.alloc (.cells #[.int .i64 x.num, .int .i64 x.topic, .int .i64 x.val, .int .i64 x.dir, .int .i64 x.fr, .int .i64 x.to, .int .i64 x.st, .int .i64 x.en] 93)
        have hbel5 := below_alloc' hbel (.cells #[.int .i64 x.num, .int .i64 x.topic, .int .i64 x.val, .int .i64 x.dir, .int .i64 x.fr, .int .i64 x.to, .int .i64 x.st, .int .i64 x.en] 93)
        have HST := hid ((unhid HPT).start x)
        generalize hWo : wr.alloc _ = Wo at *
        generalize hEb : wr.heap.size = eb at *
        clear hWo
        have HF0 := hid hfr0
        clear hfr0
        go_loopw [15] (fun i wr => ∃ (j : Nat) (o : List Int), x.fr ≤ j ∧ (j : Int) ≤ x.to ∧ i = .int .i64 j ∧ PaintIn n L hour dir topic k x j o ∧ wr.heap[w.heap.size + 1]? = some (.cells (ints o).toArray 3 (0, 0)) ∧
          wr.heap[eb]? = some (.cells #[.int .i64 x.num, .int .i64 x.topic, .int .i64 x.val, .int .i64 x.dir, .int .i64 x.fr, .int .i64 x.to, .int .i64 x.st, .int .i64 x.en] 93 (0, 0)) ∧ Rd wr (some ⟨b, off, none⟩) (edicts L) ∧ Below w.heap.size w wr) (fun i _ => (x.to - intOf i).toNat)
        case atStart => exact ⟨fr, o, by rw [unhid HF0]; omega, by have := unhid HF0; omega, by rw [unhid HF0], by have := unhid HST; rw [unhid HF0] at this; exact this, hq5, hE, hrd5, hbel5⟩
        case round =>
          obtain ⟨j, o2, hj1, hj2, rfl, hpi, hq6, hE6, hrd6, hbel6⟩ := hrel
          have f2 := cell_of_row _ eb 2 _ _ _ hE6
          have f5 := cell_of_row _ eb 5 _ _ _ hE6
          simp at f2 f5
          have HPI := hid hpi
          have HQ6 := hid hq6
          have HE6 := hid hE6
          have hlo : o2.length = n := hpi.1
          clear hpi hq6 hE6
          by_cases hjt : (j : Int) < x.to
          · have hjn : j < n := by omega
            have g0 : wr.cell? ⟨w.heap.size + 1, j, none⟩ = some (.int .i64 (o2[j]'(by omega))) := by rw [cell_of_row _ _ _ _ _ _ (unhid HQ6)]; simp [ints, List.getElem?_eq_getElem (show j < o2.length by omega)]
            have g1 : wr.frozen? ⟨w.heap.size + 1, j, none⟩ = false := by simp [World.frozen?, unhid HQ6]
            have HN := hid ((unhid HPI).next hj1)
            go_wp2_with fail
            go_roundw
            case rel =>
              refine ⟨j + 1, _, by omega, by omega, by go_num, unhid HN, ?_, ?_, ?_, Below.setCell hbel6 (by simp) _⟩
              · rw [block_set_same (unhid HQ6)]; simp [ints, List.map_set]
              · rw [block_set_other _ _ (by omega)]; exact unhid HE6
              · exact rd_set hrd6 (unhid HFR) _ _
            case measure => simp [intOf]; omega
          · have HD := hid (unhid HDN j o2 (unhid HPI) (by omega) (unhid HON))
            go_wp2_with fail
            first
              | exact ⟨⟨k + 1, o2, by omega, by go_num, unhid HD, unhid HQ6, hrd6, hbel6⟩, by simp [intOf]; omega⟩
              | (go_roundw
                 case rel => exact ⟨k + 1, o2, by omega, by go_num, unhid HD, unhid HQ6, hrd6, hbel6⟩
                 case measure => simp [intOf]; omega)
      · have HF := hid (unhid HSK (by simpa using hon))
        have HE5 := hid (fun ob : Obj => (Below.heap_alloc wr ob (w.heap.size + 1) (Array.getElem?_eq_some_iff.1 (unhid HQ)).1).trans (unhid HQ))
        have HON := hid hon
        clear hon
        go_wp2_with fail
        all_goals first
          | (exfalso; have h := unhid HON; go_light; (try simp only [beq_iff_eq, beq_eq_false_iff_ne, ne_eq, bne_iff_ne, bne_eq_false_iff_eq, decide_eq_true_eq, decide_eq_false_iff_not, Bool.and_eq_true, Bool.or_eq_true, Bool.and_eq_false_iff, Bool.or_eq_false_iff, Bool.not_eq_true', Bool.not_eq_false', Bool.not_eq_true] at *); revert h; unfold edOn; simp; omega)
          | (go_roundw
             case rel => exact ⟨k + 1, o, by omega, by go_num, unhid HF, unhid HE5 _, hrd.alloc _, below_alloc' hbel _⟩
             case measure => simp [intOf]; omega)
    · have hlt2 : ¬ k < ed.length := by have := unhid HLN; omega
      have HFIN := hid ((unhid HPT).all (by omega) (unhid HP) (unhid HS) (unhid HND) (fun e he => (unhid HB e he).1.1))
      go_wp2_with fail
      go_ret
      refine ⟨_, rfl, ?_, hbel, fun a ha => by cases ha; simp⟩
      rw [← unhid HFIN]
      exact fun _ => ⟨_, 0, rfl, (Array.getElem?_eq_some_iff.1 (unhid HQ)).1, fun j u hu => by rw [Nat.zero_add, cell_of_row _ _ j _ _ _ (unhid HQ)]; simpa using hu⟩

end Go.Proofs.YtmpngoejnmlmbaaGreat
