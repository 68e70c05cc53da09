/-
  The law's spread. Package rule's Moments and History. The law RuleWays.
-/
import Derived.Test.YtmpngoejnmlmbaaGreatWaysG
import Derived.Deep.DeepCutAuto
import Derived.Test.YtmpngoejnmlmbaaGreatMomM
import Derived.Test.YtmpngoejnmlmbaaGreatEach
import Derived.Test.YtmpngoejnmlmbaaGreatStrG
import Derived.Test.YtmpngoejnmlmbaaGreatAskG
set_option linter.unusedSimpArgs false
set_option linter.unusedVariables false
namespace Go.Proofs.YtmpngoejnmlmbaaGreat
open Go.RowKit

section
theorem hds_neW {l : List Hd} {k : Nat} (h : k < l.length) : hds l ≠ [] := flat_ne (f := hdC) (K := 3) (fun _ => rfl) (by omega) h
theorem hds_cellsW {w : World} {b off : Nat} {l : List Hd} (h : ∀ j u, (hds l)[j]? = some u → w.cell? ⟨b, off + j, none⟩ = some u) {k : Nat} (hk : k < l.length) :
    w.cell? ⟨b, off + k * 3, none⟩ = some (.int .i64 l[k].fr) ∧ w.cell? ⟨b, off + k * 3 + 1, none⟩ = some (.int .i64 l[k].to) ∧ w.cell? ⟨b, off + k * 3 + 2, none⟩ = some (.int .i64 l[k].val) :=
  ⟨h _ _ (flat_at (f := hdC) (K := 3) (fun _ => rfl) l k 0 hk (by omega)), h _ _ (flat_at (f := hdC) (K := 3) (fun _ => rfl) l k 1 hk (by omega)), h _ _ (flat_at (f := hdC) (K := 3) (fun _ => rfl) l k 2 hk (by omega))⟩
def SprPost (s : List Int) (w : World) (e : Ending) (w' : World) : Prop :=
  ∃ B, w.heap.size ≤ B ∧ e = .returned (.tuple #[.slice (some ⟨B, 0, none⟩) s.length s.length, .bool true]) ∧ Rd w' (some ⟨B, 0, none⟩) (ints s) ∧ Below w.heap.size w w'

set_option maxHeartbeats 4000000 in
set_option maxRecDepth 100000 in
theorem spread_calls (n : Nat) (A : Option Addr) (l : List Hd) (c : Nat) (s : List Int) (w : World) (hs : s.length = n) (hI : HdI s n l) (hr : Rd w A (hds l)) (hn : n ≤ 100000) (hl : l.length ≤ 100000) :
    Calls Tryz.prog 37 #[.int .i64 n, .slice A l.length c] w (SprPost s w) := by
  have HR := hid hr
  have HI := hid hI
  have HS := hid hs
  clear hr hI hs
  have hmk : ∀ W : World, (Instr.makeSlice 22 (.int .i64 (n : Int)) (.int .i64 (n : Int))).run Tryz.prog W = .ok (.slice (some ⟨W.heap.size, 0, none⟩) n n) (W.alloc (.cells (madeCells #[.int .i64 0] n) 3)) := fun W =>
    run_make_row' 22 3 (.int .i64 0) 8 Tryz.underlying22 info_int rfl .i64 .i64 n (by omega) (by omega) W
  go_enter Tryz.func37, Tryz.ntmps37
  go_wp2_with fail
  have hWm : (w.alloc (.cells (madeCells #[.int .i64 0] n) 3)).heap[w.heap.size]? = some (.cells (ints (List.replicate n 0)).toArray 3 (0, 0)) := by
    have h := heap_alloc_new w (.cells (madeCells #[.int .i64 0] n) 3)
    have e : (ints (List.replicate n 0)).toArray = madeCells #[.int .i64 0] n := by
      apply Array.toList_inj.1; rw [toList_madeCells_one]; simp [ints]
    rw [e]
    exact h
  have hbW : Below w.heap.size w (w.alloc (.cells (madeCells #[.int .i64 0] n) 3)) := below_alloc _ _
  generalize (w.alloc (.cells (madeCells #[.int .i64 0] n) 3)) = W at *
  clear hmk
  obtain ⟨B, hB⟩ : ∃ B, B = w.heap.size := ⟨_, rfl⟩
  rw [← hB] at hWm ⊢
  have HBE := hid hB
  clear hB
  go_loopw [7, 8, 9] (fun lv vv i wr => ∃ (k : Nat) (la va : Int) (o : List Int), k ≤ l.length ∧ i = .int .i64 k ∧ lv = .int .i64 la ∧ vv = .int .i64 va ∧ (k = 0 → la = 0) ∧ (∀ h0 : 0 < k, ∀ h1 : k - 1 < l.length, la = l[k - 1].to ∧ va = l[k - 1].val) ∧ o.length = n ∧ (∀ m, m < n → o[m]? = some (sprW l k m)) ∧ wr.heap[B]? = some (.cells (ints o).toArray 3 (0, 0)) ∧ Below w.heap.size w wr) (fun _ _ i _ => l.length - (intOf i).toNat)
  case atStart => exact ⟨0, 0, 0, List.replicate n 0, Nat.zero_le _, rfl, rfl, rfl, fun _ => rfl, fun h => absurd h (by omega), by simp, fun m hm => by simp [hm, sprW], hWm, hbW⟩
  case round =>
    clear hWm hbW
    obtain ⟨k, la, va, o, hk, rfl, rfl, rfl, hla0, hla1, hol, hoa, hq, hbel⟩ := hrel
    have HO := hid hoa
    have HQ := hid hq
    have HBL := hid hbel
    have HL0 := hid hla0
    have HL1 := hid hla1
    clear hoa hq hbel hla0 hla1
    by_cases hkt : k < l.length
    · obtain ⟨b, off, rfl, hb, hc⟩ := ((unhid HR).below (unhid HBL)) (hds_neW hkt)
      obtain ⟨m0, m1, m2⟩ := hds_cellsW hc hkt
      have hbB : b < w.heap.size := by
        obtain ⟨b', off', hA', hb', -⟩ := (unhid HR) (hds_neW hkt)
        injection hA' with hA'
        injection hA' with e1 e2
        subst e1
        exact hb'
      obtain ⟨x0, x1, x2, x3, x4⟩ := (unhid HI).each l[k] (List.getElem_mem hkt)
      have HSW := hid (fun m => sprW_succ l hkt m)
      have HLK := hid (show ∀ h : k < l.length, l[k] = l[k] from fun _ => rfl)
      have HPV := hid (show 0 < k → la ≤ l[k].fr ∧ ¬ (l[k].fr = la ∧ l[k].val = va) from fun h0 => by
        obtain ⟨e1, e2⟩ := (unhid HL1) h0 (by omega)
        have := (unhid HI).next (k - 1) l[k - 1] l[k] (List.getElem?_eq_getElem (by omega)) (by rw [show k - 1 + 1 = k by omega]; exact List.getElem?_eq_getElem hkt)
        rw [e1, e2]; exact this)
      clear HLK hc x4
      generalize hxe : l[k] = x at *
      have HXE := hid hxe
      have HNX := hid (show ∀ h1 : k + 1 - 1 < l.length, x.to = l[k + 1 - 1].to ∧ x.val = l[k + 1 - 1].val from fun _ => by rw [← hxe]; exact ⟨rfl, rfl⟩)
      clear hxe
      have hx1 := decide_eq_false (show ¬ x.to ≤ x.fr by omega)
      have hx2 := decide_eq_false (show ¬ (n : Int) < x.to by omega)
      have hx3 : (x.val == 0) = false := by simpa using x3
      have hlx : la ≤ x.fr := by
        rcases Nat.eq_zero_or_pos k with h | h
        · rw [(unhid HL0) h]; exact x0
        · exact ((unhid HPV) h).1
      have hx4 := decide_eq_false (show ¬ x.fr < la by omega)
      have hkk : (k : Int) < (l.length : Int) := by omega
      rcases (show k = 0 ∨ (0 < k ∧ ¬ x.fr = la) ∨ (0 < k ∧ x.fr = la ∧ ¬ x.val = va) from by
        rcases Nat.eq_zero_or_pos k with h | h
        · exact .inl h
        · by_cases e : x.fr = la
          · exact .inr (.inr ⟨h, e, fun e2 => ((unhid HPV) h).2 ⟨e, e2⟩⟩)
          · exact .inr (.inl ⟨h, e⟩)) with h0 | ⟨h0, h1⟩ | ⟨h0, h1, h2⟩
      · have hg0 := decide_eq_false (show ¬ 0 < k by omega)
        have HZ := hid h0
        clear h0
        go_wp2_with fail
        go_quiet (fail)
        go_wp2_with fail
        obtain ⟨f, hf⟩ := Int.eq_ofNat_of_zero_le x0
        have HF := hid hf
        obtain ⟨wd, hwd⟩ : ∃ wd, wd = wr.drewN nq := ⟨_, rfl⟩
        have HQd := hid (show (wr.drewN nq).heap[B]? = some (.cells (ints o).toArray 3 (0, 0)) from unhid HQ)
        have HBd := hid (below_drewN' (unhid HBL) nq)
        clear hf hwd
        go_loopw [10] (fun i wz => ∃ (m : Nat) (o2 : List Int), x.fr ≤ (m : Int) ∧ (m : Int) ≤ x.to ∧ i = .int .i64 m ∧ o2.length = n ∧ (∀ j, j < n → o2[j]? = some (if x.fr ≤ (j : Int) ∧ j < m then x.val else sprW l k j)) ∧ wz.heap[B]? = some (.cells (ints o2).toArray 3 (0, 0)) ∧ Below w.heap.size w wz) (fun i _ => (x.to - intOf i).toNat)
        case atStart => exact ⟨f, o, by rw [unhid HF]; omega, by have := unhid HF; omega, by rw [unhid HF], hol, fun j hj => by rw [(unhid HO) j hj, if_neg (by have := unhid HF; omega)], unhid HQd, unhid HBd⟩
        case round =>
          clear HQd HBd m0 m1 m2 hb
          obtain ⟨m, o2, hm1, hm2, rfl, ho2, ho3, hq2, hbel2⟩ := hrel
          obtain ⟨b', off', hA', hb, hc⟩ := ((unhid HR).below hbel2) (hds_neW hkt)
          injection hA' with hA'
          injection hA' with ea eb
          subst ea eb
          obtain ⟨m0, m1, m2⟩ := hds_cellsW hc hkt
          have HLE := unhid HXE
          rw [HLE] at m0 m1 m2
          clear hc HLE
          have HQ2 := hid hq2
          have HO3 := hid ho3
          have HBL2 := hid hbel2
          clear hq2 ho3 hbel2
          by_cases hmt : (m : Int) < x.to
          · have hmn : m < n := by omega
            have g0 : wr.cell? ⟨B, m, none⟩ = some (.int .i64 (o2[m]'(by omega))) := by rw [cell_of_row _ _ _ _ _ _ (unhid HQ2)]; simp [ints, List.getElem?_eq_getElem (show m < o2.length by omega)]
            have g1 : wr.frozen? ⟨B, m, none⟩ = false := by simp [World.frozen?, unhid HQ2]
            go_wp2_with fail
            go_roundw
            case rel =>
              refine ⟨m + 1, o2.set m x.val, by omega, by omega, by go_num, by rw [List.length_set]; exact ho2, fun j hj => ?_, ?_, Below.setCell (unhid HBL2) (by have := unhid HBE; dsimp only; omega) _⟩
              · rw [List.getElem?_set]
                by_cases e : m = j
                · subst e
                  rw [if_pos rfl, if_pos (by omega), if_pos ⟨hm1, by omega⟩]
                · rw [if_neg e, (unhid HO3) j hj]
                  by_cases e2 : x.fr ≤ (j : Int) ∧ j < m
                  · rw [if_pos e2, if_pos ⟨e2.1, by omega⟩]
                  · rw [if_neg e2, if_neg (by omega)]
              · rw [block_set_same (unhid HQ2)]; simp [ints, List.map_set]
            case measure => simp [intOf]; omega
          · go_wp2_with fail
            go_quiet (fail)
            go_wp2_with fail
            go_roundw
            case rel =>
              refine ⟨k + 1, x.to, x.val, o2, by omega, by go_num, rfl, rfl, fun h => absurd h (by omega), fun _ h1 => (unhid HNX) h1, ho2, fun j hj => ?_, unhid HQ2, below_drewN' (unhid HBL2) _⟩
              rw [(unhid HO3) j hj, (unhid HSW) j]
              by_cases e : x.fr ≤ (j : Int) ∧ (j : Int) < x.to
              · rw [if_pos e, if_pos ⟨e.1, by omega⟩]
              · rw [if_neg e, if_neg (by omega)]
            case measure => simp [intOf]; omega
      · have hg0 := decide_eq_true (show (0 : Int) < (k : Int) by omega)
        have hg1 : (x.fr == la) = false := by simpa using h1
        go_wp2_with fail
        go_quiet (fail)
        go_wp2_with fail
        obtain ⟨f, hf⟩ := Int.eq_ofNat_of_zero_le x0
        have HF := hid hf
        obtain ⟨wd, hwd⟩ : ∃ wd, wd = wr.drewN nq := ⟨_, rfl⟩
        have HQd := hid (show (wr.drewN nq).heap[B]? = some (.cells (ints o).toArray 3 (0, 0)) from unhid HQ)
        have HBd := hid (below_drewN' (unhid HBL) nq)
        clear hf hwd
        go_loopw [10] (fun i wz => ∃ (m : Nat) (o2 : List Int), x.fr ≤ (m : Int) ∧ (m : Int) ≤ x.to ∧ i = .int .i64 m ∧ o2.length = n ∧ (∀ j, j < n → o2[j]? = some (if x.fr ≤ (j : Int) ∧ j < m then x.val else sprW l k j)) ∧ wz.heap[B]? = some (.cells (ints o2).toArray 3 (0, 0)) ∧ Below w.heap.size w wz) (fun i _ => (x.to - intOf i).toNat)
        case atStart => exact ⟨f, o, by rw [unhid HF]; omega, by have := unhid HF; omega, by rw [unhid HF], hol, fun j hj => by rw [(unhid HO) j hj, if_neg (by have := unhid HF; omega)], unhid HQd, unhid HBd⟩
        case round =>
          clear HQd HBd m0 m1 m2 hb
          obtain ⟨m, o2, hm1, hm2, rfl, ho2, ho3, hq2, hbel2⟩ := hrel
          obtain ⟨b', off', hA', hb, hc⟩ := ((unhid HR).below hbel2) (hds_neW hkt)
          injection hA' with hA'
          injection hA' with ea eb
          subst ea eb
          obtain ⟨m0, m1, m2⟩ := hds_cellsW hc hkt
          have HLE := unhid HXE
          rw [HLE] at m0 m1 m2
          clear hc HLE
          have HQ2 := hid hq2
          have HO3 := hid ho3
          have HBL2 := hid hbel2
          clear hq2 ho3 hbel2
          by_cases hmt : (m : Int) < x.to
          · have hmn : m < n := by omega
            have g0 : wr.cell? ⟨B, m, none⟩ = some (.int .i64 (o2[m]'(by omega))) := by rw [cell_of_row _ _ _ _ _ _ (unhid HQ2)]; simp [ints, List.getElem?_eq_getElem (show m < o2.length by omega)]
            have g1 : wr.frozen? ⟨B, m, none⟩ = false := by simp [World.frozen?, unhid HQ2]
            go_wp2_with fail
            go_roundw
            case rel =>
              refine ⟨m + 1, o2.set m x.val, by omega, by omega, by go_num, by rw [List.length_set]; exact ho2, fun j hj => ?_, ?_, Below.setCell (unhid HBL2) (by have := unhid HBE; dsimp only; omega) _⟩
              · rw [List.getElem?_set]
                by_cases e : m = j
                · subst e
                  rw [if_pos rfl, if_pos (by omega), if_pos ⟨hm1, by omega⟩]
                · rw [if_neg e, (unhid HO3) j hj]
                  by_cases e2 : x.fr ≤ (j : Int) ∧ j < m
                  · rw [if_pos e2, if_pos ⟨e2.1, by omega⟩]
                  · rw [if_neg e2, if_neg (by omega)]
              · rw [block_set_same (unhid HQ2)]; simp [ints, List.map_set]
            case measure => simp [intOf]; omega
          · go_wp2_with fail
            go_quiet (fail)
            go_wp2_with fail
            go_roundw
            case rel =>
              refine ⟨k + 1, x.to, x.val, o2, by omega, by go_num, rfl, rfl, fun h => absurd h (by omega), fun _ h1 => (unhid HNX) h1, ho2, fun j hj => ?_, unhid HQ2, below_drewN' (unhid HBL2) _⟩
              rw [(unhid HO3) j hj, (unhid HSW) j]
              by_cases e : x.fr ≤ (j : Int) ∧ (j : Int) < x.to
              · rw [if_pos e, if_pos ⟨e.1, by omega⟩]
              · rw [if_neg e, if_neg (by omega)]
            case measure => simp [intOf]; omega
      · have hg0 := decide_eq_true (show (0 : Int) < (k : Int) by omega)
        have hg1 : (x.fr == la) = true := by simpa using h1
        have hg2 : (x.val == va) = false := by simpa using h2
        have H1 := hid h1
        clear h1
        go_wp2_with fail
        go_quiet (fail)
        go_wp2_with fail
        obtain ⟨f, hf⟩ := Int.eq_ofNat_of_zero_le x0
        have HF := hid hf
        obtain ⟨wd, hwd⟩ : ∃ wd, wd = wr.drewN nq := ⟨_, rfl⟩
        have HQd := hid (show (wr.drewN nq).heap[B]? = some (.cells (ints o).toArray 3 (0, 0)) from unhid HQ)
        have HBd := hid (below_drewN' (unhid HBL) nq)
        clear hf hwd
        go_loopw [10] (fun i wz => ∃ (m : Nat) (o2 : List Int), x.fr ≤ (m : Int) ∧ (m : Int) ≤ x.to ∧ i = .int .i64 m ∧ o2.length = n ∧ (∀ j, j < n → o2[j]? = some (if x.fr ≤ (j : Int) ∧ j < m then x.val else sprW l k j)) ∧ wz.heap[B]? = some (.cells (ints o2).toArray 3 (0, 0)) ∧ Below w.heap.size w wz) (fun i _ => (x.to - intOf i).toNat)
        case atStart => exact ⟨f, o, by rw [unhid HF]; omega, by have := unhid HF; omega, by rw [unhid HF], hol, fun j hj => by rw [(unhid HO) j hj, if_neg (by have := unhid HF; omega)], unhid HQd, unhid HBd⟩
        case round =>
          clear HQd HBd m0 m1 m2 hb
          obtain ⟨m, o2, hm1, hm2, rfl, ho2, ho3, hq2, hbel2⟩ := hrel
          obtain ⟨b', off', hA', hb, hc⟩ := ((unhid HR).below hbel2) (hds_neW hkt)
          injection hA' with hA'
          injection hA' with ea eb
          subst ea eb
          obtain ⟨m0, m1, m2⟩ := hds_cellsW hc hkt
          have HLE := unhid HXE
          rw [HLE] at m0 m1 m2
          clear hc HLE
          have HQ2 := hid hq2
          have HO3 := hid ho3
          have HBL2 := hid hbel2
          clear hq2 ho3 hbel2
          by_cases hmt : (m : Int) < x.to
          · have hmn : m < n := by omega
            have g0 : wr.cell? ⟨B, m, none⟩ = some (.int .i64 (o2[m]'(by omega))) := by rw [cell_of_row _ _ _ _ _ _ (unhid HQ2)]; simp [ints, List.getElem?_eq_getElem (show m < o2.length by omega)]
            have g1 : wr.frozen? ⟨B, m, none⟩ = false := by simp [World.frozen?, unhid HQ2]
            go_wp2_with fail
            go_roundw
            case rel =>
              refine ⟨m + 1, o2.set m x.val, by omega, by omega, by go_num, by rw [List.length_set]; exact ho2, fun j hj => ?_, ?_, Below.setCell (unhid HBL2) (by have := unhid HBE; dsimp only; omega) _⟩
              · rw [List.getElem?_set]
                by_cases e : m = j
                · subst e
                  rw [if_pos rfl, if_pos (by omega), if_pos ⟨hm1, by omega⟩]
                · rw [if_neg e, (unhid HO3) j hj]
                  by_cases e2 : x.fr ≤ (j : Int) ∧ j < m
                  · rw [if_pos e2, if_pos ⟨e2.1, by omega⟩]
                  · rw [if_neg e2, if_neg (by omega)]
              · rw [block_set_same (unhid HQ2)]; simp [ints, List.map_set]
            case measure => simp [intOf]; omega
          · go_wp2_with fail
            go_quiet (fail)
            go_wp2_with fail
            go_roundw
            case rel =>
              refine ⟨k + 1, x.to, x.val, o2, by omega, by go_num, rfl, rfl, fun h => absurd h (by omega), fun _ h1 => (unhid HNX) h1, ho2, fun j hj => ?_, unhid HQ2, below_drewN' (unhid HBL2) _⟩
              rw [(unhid HO3) j hj, (unhid HSW) j]
              by_cases e : x.fr ≤ (j : Int) ∧ (j : Int) < x.to
              · rw [if_pos e, if_pos ⟨e.1, by omega⟩]
              · rw [if_neg e, if_neg (by omega)]
            case measure => simp [intOf]; omega
    · obtain rfl : k = l.length := by omega
      have hos : o = s := by
        apply List.ext_getElem?
        intro m
        by_cases hm : m < n
        · rw [(unhid HO) m hm, spr_all (s := s) (by have := unhid HI; rwa [← unhid HS] at this) (by rw [unhid HS]; exact hm)]
          exact (List.getElem?_eq_getElem _).symm
        · rw [List.getElem?_eq_none (by omega), List.getElem?_eq_none (by have := unhid HS; omega)]
      have HOS := hid hos
      go_wp2_with fail
      go_ret2
      refine ⟨B, by have := unhid HBE; omega, by rw [unhid HS]; rfl, fun _ => ⟨B, 0, rfl, (Array.getElem?_eq_some_iff.1 (unhid HQ)).1, fun j u hj => ?_⟩, unhid HBL⟩
      rw [cell_of_row _ _ _ _ _ _ (unhid HQ), Nat.zero_add, unhid HOS]
      simpa using hj
end

section
def MomentsPost (len : Int) (js : List Int) (l : List Sg) (ed : List Ed) (w : World) (e : Ending) (w' : World) : Prop :=
  ∃ (A' : Option Addr) (c' : Nat) (L : List Int), e = .returned (.tuple #[.slice A' L.length c', .int .i64 (allE len js l ed 0)]) ∧ (allE len js l ed 0 = 0 → Mom (momH l ed) L) ∧ (allE len js l ed 0 ≠ 0 → L = []) ∧ Rd w' A' (ints L) ∧ L.length ≤ 3000 ∧ Below w.heap.size w w'
theorem allE_zeroM {len : Int} {js : List Int} {l : List Sg} {ed : List Ed} {hour : Int} (h : allE len js l ed hour = 0) : lineB len js = true ∧ sgsB len js l = true ∧ edsB len js ed = true := by
  unfold allE at h
  split at h
  · omega
  · rename_i h1
    split at h
    · omega
    · rename_i h2
      split at h
      · omega
      · rename_i h3
        exact ⟨by simpa using h1, by simpa using h2, by simpa using h3⟩
set_option maxHeartbeats 1000000 in
theorem rmomentsL_calls (len : Int) (A : Option Addr) (js : List Int) (c : Nat) (A2 : Option Addr) (l : List Sg) (c2 : Nat) (A3 : Option Addr) (ed : List Ed) (c3 : Nat) (w : World) (hl : LnOk w A js) (hs : SgsOk w A2 l) (he : EdsOk w A3 ed) :
    Calls Tryz.prog 32 #[.agg #[.int .i64 len, .slice A js.length c], .slice A2 l.length c2, .slice A3 ed.length c3] w (MomentsPost len js l ed w) := by
  have HL := hid hl
  have HS := hid hs
  have HE := hid he
  clear hl hs he
  go_enter Tryz.func32, Tryz.ntmps32
  go_wp2_with fail
  refine (all_calls len A js c A2 l c2 A3 ed c3 0 _ ((unhid HL).below (below_alloc _ _)) ((unhid HS).below (below_alloc _ _)) ((unhid HE).below (below_alloc _ _))).mono ?_
  rintro e w1 ⟨rfl, hb1⟩
  have hbw1 : Below w.heap.size w w1 := (below_alloc w _).trans (hb1.mono (by simp))
  clear hb1
  generalize hal : allE len js l ed 0 = al
  by_cases h0 : al = 0
  · subst h0
    have hv := allE_zeroM hal
    have HAL := hid hal
    clear hal
    go_wp2_with fail
    refine (moments_calls A2 l c2 A3 ed c3 _ ((unhid HS).below hbw1) ((unhid HE).below hbw1) (sgsB_len hv.2.1) (cov_bounds hv.2.1) (edsB_len hv.2.2) (mom_bounds hv.2.1 hv.2.2)).mono ?_
    rintro e w2 ⟨A6, c6, L, rfl, hM, hrd, hL, hb2⟩
    go_wp2_with fail
    go_ret2
    exact ⟨A6, c6, L, by rw [unhid HAL]; rfl, fun _ => hM, fun h => absurd (unhid HAL) h, hrd, hL, hbw1.trans (hb2.mono hbw1.size)⟩
  · have h0' : (al != 0) = true := by simpa using h0
    have HAL := hid hal
    have H0 := hid h0
    clear hal h0
    go_wp2_with fail
    go_ret2
    exact ⟨none, 0, [], by rw [unhid HAL]; rfl, fun h => absurd ((unhid HAL).symm.trans h) (unhid H0), fun _ => rfl, Rd.nil _ _, by simp, hbw1⟩

theorem edsB_nilH {len : Int} {js : List Int} (h : lineB len js = true) : edsB len js [] = true := by simp [edsB, h]
theorem EdsOk.nilH (w : World) : EdsOk w none [] := ⟨by simp, Rd.nil _ _, fun s h => by cases h⟩
def HistPost (len : Int) (js : List Int) (l : List Sg) (dir topic m : Int) (w : World) (e : Ending) (w' : World) : Prop :=
  ∃ (A' : Option Addr) (c' : Nat) (T : List Td), e = .returned (.tuple #[.slice A' T.length c', .int .i64 (holdsE len js l 0 dir topic m)]) ∧
    (holdsE len js l 0 dir topic m = 0 → ∃ hl, Mom (momH l [] ++ [0]) hl ∧ T = tdRun hl (tdV len js l dir topic m) hl.length) ∧ (holdsE len js l 0 dir topic m ≠ 0 → T = []) ∧ Rd w' A' (tds T) ∧ T.length ≤ 4000 ∧ Below w.heap.size w w'

set_option maxHeartbeats 4000000 in
set_option maxRecDepth 100000 in
theorem history_calls (len : Int) (A : Option Addr) (js : List Int) (c : Nat) (A2 : Option Addr) (l : List Sg) (c2 : Nat) (dir topic m : Int) (w : World) (hl : LnOk w A js) (hs : SgsOk w A2 l) (hlen : I64 len) :
    Calls Tryz.prog 33 #[.agg #[.int .i64 len, .slice A js.length c], .slice A2 l.length c2, .int .i64 dir, .int .i64 topic, .int .i64 m] w (HistPost len js l dir topic m w) := by
  have HL := hid hl
  have HS := hid hs
  clear hl hs
  obtain ⟨i0, hi, hz0, hz1, hz2⟩ := info_parts info_told
  go_enter Tryz.func33, Tryz.ntmps33
  go_wp2_with fail
  refine (asked_calls len A js c A2 l c2 0 dir topic _ ((unhid HL).below (below_alloc _ _)) ((unhid HS).below (below_alloc _ _))).mono ?_
  rintro e w1 ⟨rfl, hb1⟩
  have d0 := hb1.cell (p := ⟨w.heap.size, 0, none⟩) (by simp)
  have d1 := hb1.cell (p := ⟨w.heap.size, 1, none⟩) (by simp)
  simp [go_sem] at d0 d1
  have hbw1 : Below w.heap.size w w1 := (below_alloc w _).trans (hb1.mono (by simp))
  have hB1 : w.heap.size < w1.heap.size := Nat.lt_of_lt_of_le (by simp) hb1.size
  clear hb1
  have hee : holdsE len js l 0 dir topic m = if askedE len js l 0 dir topic ≠ 0 then askedE len js l 0 dir topic else if 0 ≤ m ∧ m ≤ len - 1 then 0 else 2 := rfl
  generalize he : askedE len js l 0 dir topic = er at *
  by_cases h0 : er = 0
  · subst h0
    have hv := askedE_zero he
    clear he
    have hlen2 := lineB_len hv.1
    obtain ⟨n, rfl⟩ := Int.eq_ofNat_of_zero_le (show 0 ≤ len by omega)
    have hn : (n : Int) ≤ 100000 := by omega
    have HJ := hid (lineB_mem hv.1)
    have HB := hid (sgsB_bounds hv.2.1)
    have HC := hid (sgsB_chain hv.2.1)
    have hl100 := sgsB_len hv.2.1
    have HND := hid (sgsB_nodup hv.2.1)
    have HCB := hid (cov_bounds hv.2.1)
    have HMB := hid (mom_bounds hv.2.1 (edsB_nilH hv.1))
    clear hv
    simp only [ne_eq, not_true, if_false] at hee
    by_cases hm : 0 ≤ m ∧ m ≤ (n : Int) - 1
    · rw [if_pos hm] at hee
      have HEE := hid hee
      have hmi := metreI_lt2 (dir := dir) hm.1 hm.2
      have hdm := decide_eq_true hm
      obtain ⟨hm1, hm2⟩ := hm
      clear hee
      have hrw : ∀ w, Calls Tryz.prog 50 #[.int .i64 0, .int .i64 m, .int .i64 (n - 1)] w fun e w' => e = .returned (.bool true) ∧ w = w' := fun w => (within_calls 0 m (n - 1) w).mono fun _ _ h => ⟨h.1.trans (by rw [hdm]), h.2⟩
      have HRW := hid hrw
      clear hrw hdm
      have HROK := hid (fun h R (hr : IsRow n h dir l R) => rowOk_of hr (unhid HB))
      have HRL := hid (fun h R (hr : IsRow n h dir l R) => (show R.length ≤ 100 from by have := selP_len n h dir l; have := hr.perm.length_eq; omega))
      have HEL := hid (fun R (h : R.length ≤ 100) => (show (eventsP n js R dir topic).length ≤ 1000 from by
        have h1 := evRun_len n js R dir topic R.length
        have h2 := stopP_len (evRun n js R dir topic R.length).1 (evRun n js R dir topic R.length).2 n
        unfold eventsP
        omega))
      have HVV := hid (fun h R (hr : IsRow n h dir l R) => (show atP (eventsP n js R dir topic) (metreI n dir m) = tdV n js l dir topic m h from by
        rw [at_events (unhid HROK h R hr) hmi.2, tdV, ← rowM_eq hr (unhid HND)]))
      generalize hV : tdV n js l dir topic m = V at HVV
      have HVE := hid hV
      clear hV
      go_wp2_with (first | (go_at_call 50; refine ((unhid HRW) _).mono ?_; rintro e w' ⟨rfl, rfl⟩) | (go_at_call 73; refine (moments_calls A2 l c2 none [] 0 _ ((unhid HS).below (hbw1.alloc hbw1.size _)) (EdsOk.nilH _) hl100 (unhid HCB) (by simp) (unhid HMB)).mono ?_; rintro e w2 ⟨A6, c6, L, rfl, hM, hrdL, hL3, hb2⟩; have hOL := own_below (own_new1 w1 (.int .i64 0) 3) hb2) | (at_builtin; refine wpList_app_hours rfl _ _ 22 rfl Tryz.underlying22 hOL rfl rfl hrdL hL3 (by have := hb2.size; simp at this; omega) ?_; intro g cap w3 hown3 hb3) | (go_at_call 74; refine (compactM_calls w1.heap.size g cap (0 :: L) w3 hown3 (by simp; omega)).mono ?_; rintro e w4 ⟨rfl, hrdH, hg4⟩))
      have hLge : ∀ x ∈ L, 0 ≤ x := fun x hx => ((unhid HMB) x ((hM.2 x).1 hx).1).1
      have hHM := compact_new hM hLge
      have hcl := compact_len (0 :: L)
      have h0in : (0 : Int) ∈ Lib.compact (0 :: L) := (hHM.2 0).2 ⟨by simp, by omega⟩
      obtain ⟨HQ, hHQ⟩ : ∃ z, z = Lib.compact (0 :: L) := ⟨_, rfl⟩
      rw [← hHQ] at hrdH hHM hcl h0in ⊢
      have hHl : HQ.length ≤ 3001 := by simp at hcl; omega
      have hHp : 0 < HQ.length := List.length_pos_of_mem h0in
      have hgb := (own_lt' hown3 (show (Value.slice (some ⟨g, 0, none⟩) (0 :: L).length cap).ownBlock = some g from rfl)).1
      have hb14 : Below w1.heap.size w1 w4 := Below.grown (((below_alloc w1 (.cells #[.int .i64 0] 3)).trans (hb2.mono (by simp))).trans hb3) hg4 (Nat.le_trans (by have := hb2.size; simp at this; omega) hb3.size) (fun j hj => by cases hj; exact hgb)
      have d0w := (hb14.cell (p := ⟨w.heap.size, 0, none⟩) hB1).trans d0
      have d1w := (hb14.cell (p := ⟨w.heap.size, 1, none⟩) hB1).trans d1
      have hB4 : w.heap.size < w4.heap.size := Nat.lt_of_lt_of_le hB1 hb14.size
      have hbw4 := hbw1.trans (hb14.mono hbw1.size)
      have HHM := hid hHM
      have HRH := hid hrdH
      have HW4 := hid hbw4
      have HHB := hid (show ∀ x ∈ HQ, 0 ≤ x ∧ x ≤ 10000000 from fun x hx => by
        obtain ⟨h1, h2⟩ := (hHM.2 x).1 hx
        rcases List.mem_append.1 h1 with h3 | h3
        · exact ⟨((unhid HMB) x h3).1, h2⟩
        · simp at h3; subst h3; omega)
      clear hLge hHM hcl h0in hHQ hM hrdL hL3 hb2 hown3 hb3 hrdH hg4 hgb hOL hb14 hbw4 d0 d1
      go_loopw [13, 38] (fun v i wr => ∃ (k : Nat) (A6 : Option Addr) (c6 : Nat) (o : List Td), k ≤ HQ.length ∧ i = .int .i64 k ∧ v = .slice A6 o.length c6 ∧ rtRun HQ V k = o ∧ wr.ownsRow w4.heap.size 76 3 (.slice A6 o.length c6) o.length (tds o) ∧ Below w4.heap.size w4 wr) (fun _ i _ => HQ.length - (intOf i).toNat)
      case atStart => exact ⟨0, none, 0, [], Nat.zero_le _, rfl, rfl, rfl, World.ownsRow_nil _ _ _ _, Below.refl _ _⟩
      case round =>
        obtain ⟨k, A6, c6, o, hk, rfl, rfl, ho, hown, hbel⟩ := hrel
        have HO := hid hown
        have HOE := hid ho
        have holen : o.length ≤ 3001 := by have := rtRun_len HQ V k; rw [ho] at this; omega
        clear hown ho
        by_cases hkt : k < HQ.length
        · have f0 := (hbel.cell (p := ⟨w.heap.size, 0, none⟩) hB4).trans d0w
          have f1 := (hbel.cell (p := ⟨w.heap.size, 1, none⟩) hB4).trans d1w
          have hBr := Nat.lt_of_lt_of_le hB4 hbel.size
          have HBW := hid ((unhid HW4).trans (hbel.mono (unhid HW4).size))
          obtain ⟨bh, oh, hA, hbh, hch⟩ := ((unhid HRH).below hbel) (ints_ne hkt)
          injection hA with hA
          injection hA with e1 e2
          subst e1 e2
          have c0 : wr.cell? ⟨g, k, none⟩ = some (.int .i64 HQ[k]) := by simpa using hch k _ (ints_at HQ k hkt)
          have hhb := (unhid HHB) _ (List.getElem_mem hkt)
          have HSC := hid (show rtRun HQ V (k + 1) = rtStep o HQ[k] (V HQ[k]) from by
            rw [rtRun_succ, unhid HOE, List.getD_eq_getElem?_getD, List.getElem?_eq_getElem hkt]; rfl)
          generalize HQ[k] = hrr at *
          clear hch
          go_wp2_with fail
          go_region_held3 (fun w' => w'.cell? ⟨w.heap.size, 0, none⟩ = some (.int .i64 n) ∧ w'.cell? ⟨w.heap.size, 1, none⟩ = some (.slice A js.length c) ∧ Below wr.heap.size wr w') (first | (refine ⟨?_, ?_, ?_⟩ <;> assumption) | (exact ⟨by assumption, by assumption, Below.drew (Below.refl _ _)⟩) | go_keep)
            (first
              | (go_at_call 49; have hh := ‹_ ∧ _ ∧ Below wr.heap.size wr _›; refine (rowOf_calls n A js.length c A2 l c2 hrr dir _ ((unhid HS).below ((unhid HBW).trans (hh.2.2.mono (unhid HBW).size))) (by omega) hn (unhid HC)).mono ?_; rintro e v2 ⟨A3, c3, R, rfl, hrow, hrd, hb2⟩; have hB2 := hh.2.2.trans (hb2.mono hh.2.2.size); have e0 := (hB2.cell (p := ⟨w.heap.size, 0, none⟩) hBr).trans f0; have e1 := (hB2.cell (p := ⟨w.heap.size, 1, none⟩) hBr).trans f1; clear hh)
              | (go_at_call 52; have hh := ‹_ ∧ _ ∧ Below wr.heap.size wr _›; refine (events_calls n A js c A3 R c3 dir topic _ ((unhid HL).below ((unhid HBW).trans (hh.2.2.mono (unhid HBW).size))) (unhid HJ) hn (by first | exact hrd | exact hrd.alloc _) (by have := unhid HRL hrr R hrow; omega) (unhid HROK hrr R hrow)).mono ?_; rintro e v3 ⟨A4, c4, rfl, hrd4, -, hb2⟩; have hB2 := hh.2.2.trans (hb2.mono hh.2.2.size); have e0 := (hB2.cell (p := ⟨w.heap.size, 0, none⟩) hBr).trans f0; have e1 := (hB2.cell (p := ⟨w.heap.size, 1, none⟩) hBr).trans f1; clear hh)
              | (go_at_call 53; have hh := ‹_ ∧ _ ∧ Below wr.heap.size wr _›; refine (metre_calls n A js.length c dir m _ hm1 (by omega) hn).mono ?_; rintro e v5 ⟨rfl, rfl⟩; have e0 := (World.cell?_alloc_lt _ (.cells #[.int .i64 n, .slice A js.length c] 24) ⟨w.heap.size, 0, none⟩ (Nat.lt_of_lt_of_le hBr hh.2.2.size)).trans hh.1; have e1 := (World.cell?_alloc_lt _ (.cells #[.int .i64 n, .slice A js.length c] 24) ⟨w.heap.size, 1, none⟩ (Nat.lt_of_lt_of_le hBr hh.2.2.size)).trans hh.2.1; have hB2 := below_alloc' hh.2.2 (.cells #[.int .i64 n, .slice A js.length c] 24); clear hh)
              | (go_at_call 51; have hh := ‹_ ∧ _ ∧ Below wr.heap.size wr _›; refine (at_calls A4 (eventsP n js R dir topic) c4 (metreI n dir m) _ (by first | exact hrd4 | exact hrd4.alloc _) (by have := unhid HEL R (unhid HRL hrr R hrow); omega)).mono ?_; rintro e v6 ⟨rfl, hb2⟩; have hB2 := hh.2.2.trans (hb2.mono hh.2.2.size); have e0 := (hB2.cell (p := ⟨w.heap.size, 0, none⟩) hBr).trans f0; have e1 := (hB2.cell (p := ⟨w.heap.size, 1, none⟩) hBr).trans f1; clear hh))
          have hh := ‹_ ∧ _ ∧ Below wr.heap.size wr _›
          rw [(unhid HVV) hrr R hrow]
          have HO := hid (own_below (unhid HO) hh.2.2)
          have HBX := hid (hbel.trans (hh.2.2.mono hbel.size))
          generalize V hrr = v at *
          clear hh hrow hrd hb2 hrd4 HBW f0 f1 c0 hBr e0 e1 hB2
          by_cases hol : 0 < o.length
          · have := decide_eq_true (show (0 : Int) < (o.length : Int) by omega)
            obtain ⟨g2, cg, hvv, hbg, hgs, hcells⟩ := own_some (unhid HO) hol
            injection hvv with hv1 hv2 hv3
            subst hv1 hv3
            obtain ⟨q, hq⟩ : ∃ q, o.length = q + 1 := ⟨o.length - 1, by omega⟩
            have hq1 : IntKind.i64.wrap ((o.length : Int) - 1) = (o.length : Int) - 1 := IntWalk.i64_in _ (by omega)
            have hq2 : (0 : Int) ≤ (o.length : Int) - 1 := by omega
            have hq3 : ((o.length : Int) - 1).toNat = q := by omega
            have hq4 : (o.length : Int) - 1 < (o.length : Int) := by omega
            have hq5 : q < o.length := by omega
            have HQ5 := hid hq
            clear hq
            obtain ⟨t0, t1, t2⟩ := tds_cells (b := g2) (off := 0) (l := o) (fun j u hu => by rw [Nat.zero_add]; exact hcells j u hu) hq5
            rw [Nat.zero_add] at t0 t1 t2
            have HLA := hid (last_of (unhid HQ5))
            have HST := hid (tds_set o q hrr hq5)
            have HY := hid (show o[q]'hq5 = o[q]'hq5 from rfl)
            clear HY hcells t0
            generalize o[q]'hq5 = y at *
            have tf := (unhid HO).frozenAt (q * 3 + 1)
            by_cases hyv : y.val = v
            · have hyv' : (y.val == v) = true := by simpa using hyv
              have HNX := hid (show rtRun HQ V (k + 1) = o from by rw [unhid HSC]; exact rt_same (q := q) (unhid HLA) hyv)
              clear hyv
              go_wp2_with fail
              go_roundw
              case rel => exact ⟨k + 1, _, c6, o, by omega, by go_num, rfl, unhid HNX, unhid HO, unhid HBX⟩
              case measure => simp [intOf]; omega
            · have hyv' : (y.val == v) = false := by simpa using hyv
              have HNX := hid (show rtRun HQ V (k + 1) = o.set q ⟨y.fr, hrr, y.val⟩ ++ [⟨hrr, 0, v⟩] from by rw [unhid HSC]; exact rt_diff (unhid HQ5) (unhid HLA) hyv)
              have h9 := (unhid HO).stored (q * 3 + 1) (.int .i64 hrr)
              have HO := hid (show (v6.setCell ⟨g2, q * 3 + 1, none⟩ (.int .i64 hrr)).ownsRow w4.heap.size 76 3 (.slice (some ⟨g2, 0, none⟩) o.length c6) o.length (tds (o.set q ⟨y.fr, hrr, y.val⟩)) from by rw [← unhid HST]; exact h9.1)
              have HBX := hid (show Below w4.heap.size w4 (v6.setCell ⟨g2, q * 3 + 1, none⟩ (.int .i64 hrr)) from Below.setCell (unhid HBX) hbg _)
              clear hyv h9
              have hnb : ((v6.setCell ⟨g2, q * 3 + 1, none⟩ (.int .i64 hrr)).alloc (.cells #[.int .i64 hrr, .int .i64 0, .int .i64 v] 76)).heap[v6.heap.size]? = some (.cells #[.int .i64 hrr, .int .i64 0, .int .i64 v] 76 (0, 0)) := by
                have h := heap_alloc_new (v6.setCell ⟨g2, q * 3 + 1, none⟩ (.int .i64 hrr)) (.cells #[.int .i64 hrr, .int .i64 0, .int .i64 v] 76)
                rwa [show (v6.setCell ⟨g2, q * 3 + 1, none⟩ (.int .i64 hrr)).heap.size = v6.heap.size from by simp] at h
              go_wp2_with (at_builtin; refine wpList_append_lies _ rfl _ _ 62 rfl w4.heap.size 76 i0 (.agg #[.int .i64 0, .int .i64 0, .int .i64 0]) 3 24 Tryz.underlying62 hi hz0 hz1 hz2 rfl (by decide) _ _ _ rfl ((unhid HO).alloc _) ⟨v6.heap.size, 0, none⟩ 1 1 [.int .i64 hrr, .int .i64 0, .int .i64 v] rfl rfl (World.news_of_block (cs := #[.int .i64 hrr, .int .i64 0, .int .i64 v]) (t := 76) (fr := (0, 0)) hnb) ?_ (by decide) ?_ ?_ ?_ (v6.heap.size + 1) (by simp) ?_)
              all_goals try (first | (unfold maxLen; omega) | omega | (have := (unhid HBX).size; simp; omega) | exact ⟨rfl, rfl, rfl⟩ | (intro u hu; simp at hu; rcases hu with rfl | rfl | rfl <;> rfl))
              intro g8 c8 w8 hown8 hg8 hat8 hlt8
              have hb8 : Below w4.heap.size w4 w8 := by
                have hbx := unhid HBX
                refine Below.grown (hbx.alloc hbx.size _) hg8 (by have := hbx.size; simp; omega) (fun i hi => ?_)
                exact (own_lt' (unhid HO) hi).1
              have HO8 := hid hown8
              clear hown8 hg8 hat8 hlt8
              go_wp2_with fail
              go_roundw
              case rel =>
                refine ⟨k + 1, some ⟨g8, 0, none⟩, c8, (o.set q ⟨y.fr, hrr, y.val⟩) ++ [⟨hrr, 0, v⟩], by omega, by go_num, by simp, unhid HNX, ?_, hb8⟩
                have h5 := unhid HO8
                rw [show ((o.set q ⟨y.fr, hrr, y.val⟩) ++ [(⟨hrr, 0, v⟩ : Td)]).length = (o.set q ⟨y.fr, hrr, y.val⟩).length + 1 from by simp, show tds ((o.set q ⟨y.fr, hrr, y.val⟩) ++ [(⟨hrr, 0, v⟩ : Td)]) = tds (o.set q ⟨y.fr, hrr, y.val⟩) ++ [.int .i64 hrr, .int .i64 0, .int .i64 v] from by simp [tds, tdC]]
                rw [List.length_set]
                exact h5
              case measure => simp [intOf]; omega
          · have := decide_eq_false (show ¬ ((0 : Int) < (o.length : Int)) by omega)
            have HNX := hid (show rtRun HQ V (k + 1) = o ++ [⟨hrr, 0, v⟩] from by rw [unhid HSC]; exact rt_nil (by omega))
            go_wp2_with (at_builtin; refine wpList_append_lies _ rfl _ _ 62 rfl w4.heap.size 76 i0 (.agg #[.int .i64 0, .int .i64 0, .int .i64 0]) 3 24 Tryz.underlying62 hi hz0 hz1 hz2 rfl (by decide) _ _ _ rfl ((unhid HO).alloc _) ⟨v6.heap.size, 0, none⟩ 1 1 [.int .i64 hrr, .int .i64 0, .int .i64 v] rfl rfl (World.news_of_block (cs := #[.int .i64 hrr, .int .i64 0, .int .i64 v]) (t := 76) (fr := (0, 0)) (heap_alloc_new v6 _)) ?_ (by decide) ?_ ?_ ?_ (v6.heap.size + 1) (by simp) ?_)
            all_goals try (first | (unfold maxLen; omega) | omega | (have := (unhid HBX).size; simp; omega) | exact ⟨rfl, rfl, rfl⟩ | (intro u hu; simp at hu; rcases hu with rfl | rfl | rfl <;> rfl))
            intro g8 c8 w8 hown8 hg8 hat8 hlt8
            have hb8 : Below w4.heap.size w4 w8 := by
              have hbx := unhid HBX
              refine Below.grown (hbx.alloc hbx.size _) hg8 (by have := hbx.size; simp; omega) (fun i hi => ?_)
              exact (own_lt' (unhid HO) hi).1
            have HO8 := hid hown8
            clear hown8 hg8 hat8 hlt8
            go_wp2_with fail
            go_roundw
            case rel =>
              refine ⟨k + 1, some ⟨g8, 0, none⟩, c8, o ++ [⟨hrr, 0, v⟩], by omega, by go_num, by simp, unhid HNX, ?_, hb8⟩
              have h5 := unhid HO8
              rw [show (o ++ [(⟨hrr, 0, v⟩ : Td)]).length = o.length + 1 from by simp, show tds (o ++ [(⟨hrr, 0, v⟩ : Td)]) = tds o ++ [.int .i64 hrr, .int .i64 0, .int .i64 v] from by simp [tds, tdC]]
              exact h5
            case measure => simp [intOf]; omega
        · obtain rfl : k = HQ.length := by omega
          have hrl : 0 < o.length := by
            rcases rt_td HQ V HQ.length (Nat.le_refl _) with ⟨-, -, h⟩ | ⟨I, t, h1, h2⟩
            · omega
            · rw [← unhid HOE, h1]; simp
          obtain ⟨g2, cg, hvv, hbg, hgs, hcells⟩ := own_some (unhid HO) hrl
          injection hvv with hv1 hv2 hv3
          subst hv1 hv3
          obtain ⟨q, hq⟩ : ∃ q, o.length = q + 1 := ⟨o.length - 1, by omega⟩
          have hq1 : IntKind.i64.wrap ((o.length : Int) - 1) = (o.length : Int) - 1 := IntWalk.i64_in _ (by omega)
          have hq2 : (0 : Int) ≤ (o.length : Int) - 1 := by omega
          have hq3 : ((o.length : Int) - 1).toNat = q := by omega
          have hq4 : (o.length : Int) - 1 < (o.length : Int) := by omega
          have hq5 : q < o.length := by omega
          have HQ5 := hid hq
          clear hq
          obtain ⟨t0, t1, t2⟩ := tds_cells (b := g2) (off := 0) (l := o) (fun j u hu => by rw [Nat.zero_add]; exact hcells j u hu) hq5
          rw [Nat.zero_add] at t0 t1 t2
          have HEND := hid (show o.set q ⟨(o[q]'hq5).fr, 10000001, (o[q]'hq5).val⟩ = tdRun HQ V HQ.length from by
            have h1 := rt_end (hs := HQ) (v := V) (q := q) (y := o[q]'hq5) hHp (by rw [unhid HOE]; exact unhid HQ5) (by rw [unhid HOE]; exact last_of (unhid HQ5))
            rwa [unhid HOE] at h1)
          have HST := hid (tds_set o q 10000001 hq5)
          have tf := (unhid HO).frozenAt (q * 3 + 1)
          clear hcells
          go_wp2_with fail
          go_ret2
          have h9 := (unhid HO).stored (q * 3 + 1) (.int .i64 10000001)
          have hlT : (tdRun HQ V HQ.length).length = o.length := by rw [← unhid HEND, List.length_set]
          obtain ⟨A9, c9, hv9, hrd9, -⟩ := own_slice h9.1
          injection hv9 with r1 r2 r3
          subst r1
          rw [unhid HST, unhid HEND] at hrd9
          exact ⟨some ⟨g2, 0, none⟩, c6, tdRun HQ V HQ.length, by rw [unhid HEE, hlT]; rfl, fun _ => ⟨HQ, unhid HHM, by rw [unhid HVE]⟩, fun h => absurd (unhid HEE) h, hrd9, by omega, (unhid HW4).trans ((Below.setCell hbel hbg _).mono (unhid HW4).size)⟩
    · rw [if_neg hm] at hee
      have HEE := hid hee
      have hdm := decide_eq_false hm
      clear hee hm
      have hrw : ∀ w, Calls Tryz.prog 50 #[.int .i64 0, .int .i64 m, .int .i64 (n - 1)] w fun e w' => e = .returned (.bool false) ∧ w = w' := fun w => (within_calls 0 m (n - 1) w).mono fun _ _ h => ⟨h.1.trans (by rw [hdm]), h.2⟩
      have HRW := hid hrw
      clear hrw hdm
      go_wp2_with (go_at_call 50; refine ((unhid HRW) _).mono ?_; rintro e w' ⟨rfl, rfl⟩)
      go_ret2
      exact ⟨none, 0, [], by rw [unhid HEE]; rfl, fun h => absurd ((unhid HEE).symm.trans h) (by omega), fun _ => rfl, Rd.nil _ _, by simp, hbw1⟩
  · have h0' : (er != 0) = true := by simpa using h0
    rw [if_pos h0] at hee
    have HEE := hid hee
    have H0 := hid h0
    clear he hee h0
    go_wp2_with fail
    go_ret2
    exact ⟨none, 0, [], by rw [unhid HEE]; rfl, fun h => absurd ((unhid HEE).symm.trans h) (unhid H0), fun _ => rfl, Rd.nil _ _, by simp, hbw1⟩
end

section
theorem wrap_modW (metre : Int) (n : Nat) (h1 : 1 ≤ n) (h2 : n ≤ 200) : ∃ m : Nat, m < n ∧ wrap64 ((IntKind.u64.wrap metre).tmod n) = m := by
  have h0 : 0 ≤ IntKind.u64.wrap metre := by
    simp [IntKind.wrap, IntKind.signed, IntKind.bits]
    exact Int.emod_nonneg _ (by omega)
  have h3 : (IntKind.u64.wrap metre).tmod n = IntKind.u64.wrap metre % n := Int.tmod_eq_emod_of_nonneg h0
  have h4 := Int.emod_nonneg (IntKind.u64.wrap metre) (show (n : Int) ≠ 0 by omega)
  have h5 := Int.emod_lt_of_pos (IntKind.u64.wrap metre) (show (0 : Int) < n by omega)
  refine ⟨(IntKind.u64.wrap metre % n).toNat, by omega, ?_⟩
  rw [h3, IntWalk.wrap64_in _ ⟨by omega, by omega⟩]
  omega
theorem holdsE_okW {len : Int} {js : List Int} {l : List Sg} {hour dir topic m : Int} (h1 : lineB len js = true) (h2 : sgsB len js l = true) (h3 : 0 ≤ hour ∧ hour ≤ 10000000) (h4 : dirB dir = true) (h5 : topic = 1 ∨ topic = 2) (h6 : 0 ≤ m ∧ m ≤ len - 1) : holdsE len js l hour dir topic m = 0 := by
  unfold holdsE
  rw [askedE_ok h1 h2 h3 h4 h5, if_neg (by simp), if_pos h6]
theorem orderedE_okW {len : Int} {js : List Int} {ed : List Ed} {hour dir topic : Int} (h1 : lineB len js = true) (h2 : edsB len js ed = true) (h3 : 0 ≤ hour ∧ hour ≤ 10000000) (h4 : dirB dir = true) (h5 : topic = 1 ∨ topic = 2) : orderedE len js ed hour dir topic = 0 := by
  unfold orderedE
  rw [if_neg (by rw [h2]; simp)]
  exact askedE_ok h1 (by rw [sgsB_nil]; exact h1) h3 h4 h5
theorem mustE_okW {len : Int} {js : List Int} {ed : List Ed} {hour dir topic m : Int} (h1 : lineB len js = true) (h2 : edsB len js ed = true) (h3 : 0 ≤ hour ∧ hour ≤ 10000000) (h4 : dirB dir = true) (h5 : topic = 1 ∨ topic = 2) (h6 : 0 ≤ m ∧ m ≤ len - 1) : mustE len js ed hour dir topic m = 0 := by
  unfold mustE
  rw [orderedE_okW h1 h2 h3 h4 h5, if_neg (by simp), if_pos h6]
theorem allE_okW {len : Int} {js : List Int} {l : List Sg} {ed : List Ed} {hour : Int} (h1 : lineB len js = true) (h2 : sgsB len js l = true) (h4 : edsB len js ed = true) (h3 : 0 ≤ hour ∧ hour ≤ 10000000) : allE len js l ed hour = 0 := by
  unfold allE
  rw [h1, h2, h4]
  simp [h3]
theorem info_bool : (Tryz.prog.info? 4).map (fun i => (i.zero, i.size, i.bytes)) = some (some (.bool false), 1, 1) := by kernel_rfl
theorem info_gapW : (Tryz.prog.info? 74).map (fun i => (i.zero, i.size, i.bytes)) = some (some (.agg #[.int .i64 0, .int .i64 0, .int .i64 0, .int .i64 0, .int .i64 0, .int .i64 0]), 6, 48) := by kernel_rfl
def bls (o : List Bool) : List Value := o.map .bool
theorem bls_at {o : List Bool} {j : Nat} {b : Bool} (h : o[j]? = some b) : (bls o)[j]? = some (.bool b) := by simp [bls, h]
theorem gps_neW {l : List Gp} {k : Nat} (h : k < l.length) : gps l ≠ [] := flat_ne (f := gpC) (K := 6) (fun _ => rfl) (by omega) h
theorem gps_cellsW {w : World} {b off : Nat} {l : List Gp} (h : ∀ j u, (gps l)[j]? = some u → w.cell? ⟨b, off + j, none⟩ = some u) {k : Nat} (hk : k < l.length) :
    w.cell? ⟨b, off + k * 6, none⟩ = some (.int .i64 l[k].topic) ∧ w.cell? ⟨b, off + k * 6 + 1, none⟩ = some (.int .i64 l[k].dir) ∧ w.cell? ⟨b, off + k * 6 + 2, none⟩ = some (.int .i64 l[k].fr) ∧
    w.cell? ⟨b, off + k * 6 + 3, none⟩ = some (.int .i64 l[k].to) ∧ w.cell? ⟨b, off + k * 6 + 4, none⟩ = some (.int .i64 l[k].has) ∧ w.cell? ⟨b, off + k * 6 + 5, none⟩ = some (.int .i64 l[k].should) :=
  ⟨h _ _ (flat_at (f := gpC) (K := 6) (fun _ => rfl) l k 0 hk (by omega)), h _ _ (flat_at (f := gpC) (K := 6) (fun _ => rfl) l k 1 hk (by omega)), h _ _ (flat_at (f := gpC) (K := 6) (fun _ => rfl) l k 2 hk (by omega)), h _ _ (flat_at (f := gpC) (K := 6) (fun _ => rfl) l k 3 hk (by omega)), h _ _ (flat_at (f := gpC) (K := 6) (fun _ => rfl) l k 4 hk (by omega)), h _ _ (flat_at (f := gpC) (K := 6) (fun _ => rfl) l k 5 hk (by omega))⟩
theorem rd_intsW {w : World} {B : Nat} {o : List Int} (h : Rd w (some ⟨B, 0, none⟩) (ints o)) {m : Nat} {v : Int} (hv : o[m]? = some v) : w.cell? ⟨B, m, none⟩ = some (.int .i64 v) := by
  have hm : m < o.length := (List.getElem?_eq_some_iff.1 hv).1
  obtain ⟨b, off, e, -, hc⟩ := h (by intro e; have : (ints o).length = 0 := by rw [e]; rfl
                                     simp [ints] at this; subst this; simp at hm)
  injection e with e
  injection e with e1 e2
  subst e1; subst e2
  have := hc m (.int .i64 v) (by simp [ints, hv])
  rwa [Nat.zero_add] at this

theorem rd_of_rowW {w : World} {B : Nat} {xs : List Value} {t : TypeId} (h : w.heap[B]? = some (.cells xs.toArray t (0, 0))) : Rd w (some ⟨B, 0, none⟩) xs := fun _ =>
  ⟨B, 0, rfl, (Array.getElem?_eq_some_iff.1 h).1, fun j u hj => by rw [cell_of_row _ _ _ _ _ _ h, Nat.zero_add]; simpa using hj⟩
theorem rd_blsW {w : World} {B : Nat} {o : List Bool} (h : Rd w (some ⟨B, 0, none⟩) (bls o)) {m : Nat} {v : Bool} (hv : o[m]? = some v) : w.cell? ⟨B, m, none⟩ = some (.bool v) := by
  have hm : m < o.length := (List.getElem?_eq_some_iff.1 hv).1
  obtain ⟨b, off, e, -, hc⟩ := h (by intro e; have : (bls o).length = 0 := by rw [e]; rfl
                                     simp [bls] at this; subst this; simp at hm)
  injection e with e
  injection e with e1 e2
  subst e1; subst e2
  have := hc m (.bool v) (bls_at hv)
  rwa [Nat.zero_add] at this
theorem inB_out {topic dir : Int} {G : List Gp} {k : Nat} {x : Gp} (hs : ∀ m, inB topic dir G (k + 1) m = (inB topic dir G k m || gpIn topic dir m x)) (m : Nat) (h1 : x.fr ≤ (m : Int)) (h2 : (m : Int) ≤ x.to) (h3 : x.fr < (m : Int) → x.dir = dir ∧ x.topic = topic) (h4 : (m : Int) < x.to → ¬ (x.dir = dir ∧ x.topic = topic)) (j : Nat) :
    (inB topic dir G k j || decide (x.fr ≤ (j : Int) ∧ j < m)) = inB topic dir G (k + 1) j := by
  rw [hs j]
  congr 1
  unfold gpIn
  rw [decide_eq_decide]
  by_cases e : x.dir = dir ∧ x.topic = topic
  · have : (m : Int) = x.to := by
      rcases (show (m : Int) < x.to ∨ (m : Int) = x.to by omega) with h | h
      · exact absurd e (h4 h)
      · exact h
    constructor
    · rintro ⟨a, b⟩; exact ⟨e.2, e.1, a, by omega⟩
    · rintro ⟨-, -, a, b⟩; exact ⟨a, by omega⟩
  · have : ¬ x.fr < (m : Int) := fun h => e (h3 h)
    constructor
    · rintro ⟨a, b⟩; omega
    · rintro ⟨a, b, -⟩; exact absurd ⟨b, a⟩ e

theorem gap_roundW {w : World} {b off : Nat} {n : Nat} {Hs Ms : List Int} {topic dir : Int} {G : List Gp} (h : WaysOk n Hs Ms topic dir G) (hc : ∀ j u, (gps G)[j]? = some u → w.cell? ⟨b, off + j, none⟩ = some u) {k : Nat} (hk : k < G.length) :
    ∃ x : Gp, w.cell? ⟨b, off + k * 6, none⟩ = some (.int .i64 x.topic) ∧ w.cell? ⟨b, off + k * 6 + 1, none⟩ = some (.int .i64 x.dir) ∧ w.cell? ⟨b, off + k * 6 + 2, none⟩ = some (.int .i64 x.fr) ∧
      w.cell? ⟨b, off + k * 6 + 3, none⟩ = some (.int .i64 x.to) ∧ w.cell? ⟨b, off + k * 6 + 4, none⟩ = some (.int .i64 x.has) ∧ w.cell? ⟨b, off + k * 6 + 5, none⟩ = some (.int .i64 x.should) ∧
      0 ≤ x.fr ∧ x.fr < x.to ∧ x.to ≤ n ∧ (∀ m : Nat, gpIn topic dir m x = true → inB topic dir G k m = false ∧ Hs[m]? = some x.has ∧ Ms[m]? = some x.should) ∧ (∀ m, inB topic dir G (k + 1) m = (inB topic dir G k m || gpIn topic dir m x)) := by
  obtain ⟨m0, m1, m2, m3, m4, m5⟩ := gps_cellsW hc hk
  obtain ⟨x0, x1, x2⟩ := h.bounds G[k] (List.getElem_mem hk)
  exact ⟨G[k], m0, m1, m2, m3, m4, m5, x0, x1, x2, h.fresh k hk, fun m => inB_succ topic dir G hk m⟩
def tilAtW (TT : List Td) : Nat → Int
  | 0 => 0
  | k + 1 => match TT[k]? with
    | some y => y.til
    | none => 0
theorem told_roundW {w : World} {b off : Nat} {TT : List Td} {hour V : Int} (h : ToldOk TT hour V) (hc : ∀ j u, (tds TT)[j]? = some u → w.cell? ⟨b, off + j, none⟩ = some u) {k : Nat} (hk : k < TT.length) {z : Int} (hz : z = tilAtW TT k) :
    ∃ t v : Int, w.cell? ⟨b, off + k * 3, none⟩ = some (.int .i64 z) ∧ w.cell? ⟨b, off + k * 3 + 1, none⟩ = some (.int .i64 t) ∧ w.cell? ⟨b, off + k * 3 + 2, none⟩ = some (.int .i64 v) ∧ t = tilAtW TT (k + 1) ∧ z < t ∧ (z ≤ hour → hour < t → v = V) := by
  obtain ⟨m0, m1, m2⟩ := tds_cells hc hk
  have hfr : TT[k].fr = z := by
    rw [hz]
    cases k with
    | zero => exact h.head _ (List.getElem?_eq_getElem hk)
    | succ k =>
      have hk' : k < TT.length := by omega
      rw [h.next k _ _ (List.getElem?_eq_getElem hk') (List.getElem?_eq_getElem hk)]
      simp [tilAtW, hk']
  have he := h.each _ (List.getElem_mem hk)
  have hv := h.val _ (List.getElem_mem hk)
  rw [hfr] at m0 he hv
  exact ⟨_, _, m0, m1, m2, by simp [tilAtW, hk], he, hv⟩
theorem told_endW {TT : List Td} {hour V : Int} (h : ToldOk TT hour V) : tilAtW TT TT.length = 10000001 := by
  have hpos := List.length_pos_iff.2 h.some
  obtain ⟨m, hm⟩ : ∃ m, TT.length = m + 1 := ⟨TT.length - 1, by omega⟩
  rw [hm]
  have hm' : m < TT.length := by omega
  have := h.last TT[m] (by rw [List.getLast?_eq_getElem?, hm]; exact List.getElem?_eq_getElem hm')
  simp [tilAtW, hm', this]

set_option maxHeartbeats 4000000 in
set_option maxRecDepth 100000 in
theorem waysL_calls (len : Int) (A : Option Addr) (js : List Int) (c : Nat) (A2 : Option Addr) (l : List Sg) (c2 : Nat) (A3 : Option Addr) (ed : List Ed) (c3 : Nat) (hour dir topic metre : Int) (w : World) (hl : LnOk w A js) (hs : SgsOk w A2 l) (he : EdsOk w A3 ed) (_ : I64 len) (_ : I64 hour) (_ : I64 dir) (_ : I64 topic) (im : I64 metre) :
    Calls Tryz.prog 8 #[.agg #[.int .i64 len, .slice A js.length c, .slice A2 l.length c2, .slice A3 ed.length c3, .int .i64 hour, .int .i64 dir, .int .i64 topic, .int .i64 metre]] w fun e w' => e = .returned (.bool true) ∧ Below w.heap.size w w' := by
  have HL := hid hl
  have HS := hid hs
  have HE := hid he
  clear hl hs he
  go_enter Tryz.func8, Tryz.ntmps8
  go_wp2_with fail
  refine (right_calls len A js c A2 l c2 A3 ed c3 hour dir topic metre _ ((unhid HL).below (below_alloc _ _)) ((unhid HS).below (below_alloc _ _)) ((unhid HE).below (below_alloc _ _))).mono ?_
  rintro e w1 ⟨rfl, hb1⟩
  have HA1 := (Ask8.new w (.int .i64 len) (.slice A js.length c) (.slice A2 l.length c2) (.slice A3 ed.length c3) (.int .i64 hour) (.int .i64 dir) (.int .i64 topic) (.int .i64 metre) 28).below hb1
  have HB1 := hid ((below_alloc w _).trans (hb1.mono (by simp)))
  clear hb1
  obtain ⟨B, hBB⟩ : ∃ B, B = w.heap.size := ⟨_, rfl⟩
  rw [← hBB] at HA1 ⊢
  clear hBB
  obtain ⟨e0, e1, e2, e3, e4, e5, e6, e7⟩ := HA1.cells
  by_cases hrt : rightA len js l ed hour dir topic = true
  · have HOK := rightA_ok hrt
    rw [hrt]
    clear hrt
    have hlen1 := (lineB_len HOK.line).1
    have hlen2 := HOK.small
    obtain ⟨n, rfl⟩ := Int.eq_ofNat_of_zero_le (show 0 ≤ len by omega)
    obtain ⟨mm, hmm, hme⟩ := wrap_modW metre n (by omega) (by omega)
    have HME := hid hme
    have hho := HOK.hour
    have HOK := hid HOK
    clear hme
    have AE := hid (askedE_ok (unhid HOK).line (unhid HOK).signs hho (unhid HOK).dir (unhid HOK).topic)
    have OE := hid (orderedE_okW (unhid HOK).line (unhid HOK).eds hho (unhid HOK).dir (unhid HOK).topic)
    have LE := hid (allE_okW (unhid HOK).line (unhid HOK).signs (unhid HOK).eds hho)
    have HND := hid (sgsB_nodup (unhid HOK).signs)
    obtain ⟨Hs, hHs⟩ : ∃ Hs, Hs = holdM n js l hour topic dir := ⟨_, rfl⟩
    obtain ⟨Ms, hMs⟩ : ∃ Ms, Ms = mustM n ed hour topic dir := ⟨_, rfl⟩
    obtain ⟨G, hG⟩ : ∃ G, G = gapsP n js l ed hour 4 := ⟨_, rfl⟩
    have HW := hid (show WaysOk n Hs Ms topic dir G from by rw [hHs, hMs, hG]; exact waysOk (unhid HOK).topic (unhid HOK).dir)
    have HHL := hid (show Hs.length = n by rw [hHs]; simp [holdM])
    have HML := hid (show Ms.length = n by rw [hMs]; simp [mustM])
    have HHM := hid (show ∀ m : Nat, m < n → Hs[m]? = some (tdV n js l dir topic m hour) from fun m hm => by rw [hHs]; simp [holdM, holdS, tdV, hm])
    have HMM := hid (show ∀ m : Nat, m < n → Ms[m]? = some (mustP ed hour dir topic m) from fun m hm => by rw [hMs]; simp [mustM, mustS, hm])
    have HHS := hid hHs
    have HMS := hid hMs
    have HGS := hid hG
    clear hHs hMs hG
    go_wp2_with fail
    refine (heldOf_calls n A js c A2 l c2 hour dir topic _ ((unhid HL).below (unhid HB1)) ((unhid HS).below (unhid HB1))).mono ?_
    rintro e w2 ⟨A5, c5, L1, rfl, hz, -, hr5, hl5, hb2⟩
    obtain ⟨R1, hR1, hL1⟩ := hz (unhid AE)
    have hL1' : L1 = heldP Hs := by
      rw [hL1, show ((n : Int)).toNat = n from rfl, strip_hold (rowOk_of hR1 (sgsB_bounds (unhid HOK).signs)) hR1.far, unhid HHS, rowM_eq hR1 (unhid HND)]
      rfl
    have HI1 := hid (show HdI Hs n L1 from by have := heldP_I Hs; rw [unhid HHL] at this; rw [hL1']; exact this)
    rw [unhid AE]
    have HR5 := hid hr5
    clear hz hR1 hL1 hL1' hr5
    have HB2 := hid ((unhid HB1).trans (hb2.mono (unhid HB1).size))
    have HA2 := HA1.below hb2
    clear hb2 e0 e1 e2 e3 e4 e5 e6 e7 HA1
    obtain ⟨e0, e1, e2, e3, e4, e5, e6, e7⟩ := HA2.cells
    go_wp2_with fail
    refine (wanted_calls n A js c A3 ed c3 hour dir topic _ ((unhid HL).below (unhid HB2)) ((unhid HE).below (unhid HB2))).mono ?_
    rintro e w3 ⟨A6, c6, L2, rfl, hz, -, hr6, hl6, hb3⟩
    have hL2 : L2 = heldP Ms := by
      rw [hz (unhid OE), show ((n : Int)).toNat = n from rfl, unhid HMS]
      rfl
    have HI2 := hid (show HdI Ms n L2 from by have := heldP_I Ms; rw [unhid HML] at this; rw [hL2]; exact this)
    rw [unhid OE]
    have HR5 := hid ((unhid HR5).below hb3)
    have HR6 := hid hr6
    clear hz hL2 hr6
    have HB3 := hid ((unhid HB2).trans (hb3.mono (unhid HB2).size))
    have HA3 := HA2.below hb3
    clear hb3 e0 e1 e2 e3 e4 e5 e6 e7 HA2
    obtain ⟨e0, e1, e2, e3, e4, e5, e6, e7⟩ := HA3.cells
    go_wp2_with fail
    refine (rcomp_calls n A js c A2 l c2 A3 ed c3 hour _ ((unhid HL).below (unhid HB3)) ((unhid HS).below (unhid HB3)) ((unhid HE).below (unhid HB3))).mono ?_
    rintro e w4 ⟨A7, c7, G', rfl, hz, -, hr7, hl7, hb4⟩
    obtain rfl : G' = G := by
      rw [hz (unhid LE), show ((n : Int)).toNat = n from rfl, unhid HGS]
    rw [unhid LE]
    have HR5 := hid ((unhid HR5).below hb4)
    have HR6 := hid ((unhid HR6).below hb4)
    have HR7 := hid hr7
    clear hz hr7
    have HB4 := hid ((unhid HB3).trans (hb4.mono (unhid HB3).size))
    have HA4 := HA3.below hb4
    clear hb4 e0 e1 e2 e3 e4 e5 e6 e7 HA3
    obtain ⟨e0, e1, e2, e3, e4, e5, e6, e7⟩ := HA4.cells
    go_wp2_with fail
    refine (spread_calls n A5 L1 c5 Hs _ (unhid HHL) (unhid HI1) (unhid HR5) (by omega) hl5).mono ?_
    rintro e w5 ⟨B5, -, rfl, hr8, hb5⟩
    rw [unhid HHL]
    have HR6 := hid ((unhid HR6).below hb5)
    have HR7 := hid ((unhid HR7).below hb5)
    have HR8 := hid hr8
    clear hr8
    have HB5 := hid ((unhid HB4).trans (hb5.mono (unhid HB4).size))
    have HA5 := HA4.below hb5
    clear hb5 e0 e1 e2 e3 e4 e5 e6 e7 HA4
    obtain ⟨e0, e1, e2, e3, e4, e5, e6, e7⟩ := HA5.cells
    go_wp2_with fail
    refine (spread_calls n A6 L2 c6 Ms _ (unhid HML) (unhid HI2) (unhid HR6) (by omega) hl6).mono ?_
    rintro e w6 ⟨B6, -, rfl, hr9, hb6⟩
    rw [unhid HML]
    have HR7 := hid ((unhid HR7).below hb6)
    have HR8 := hid ((unhid HR8).below hb6)
    have HR9 := hid hr9
    clear hr9
    have HB6 := hid ((unhid HB5).trans (hb6.mono (unhid HB5).size))
    have HA6 := HA5.below hb6
    clear hb6 e0 e1 e2 e3 e4 e5 e6 e7 HA5 HI1 HI2 HR5 HR6 AE OE LE hl5 hl6
    obtain ⟨e0, e1, e2, e3, e4, e5, e6, e7⟩ := HA6.cells
    have hmk : ∀ W : World, (Instr.makeSlice 72 (.int .i64 (n : Int)) (.int .i64 (n : Int))).run Tryz.prog W = .ok (.slice (some ⟨W.heap.size, 0, none⟩) n n) (W.alloc (.cells (madeCells #[.bool false] n) 4)) := fun W =>
      run_make_row' 72 4 (.bool false) 1 Tryz.underlying72 info_bool rfl .i64 .i64 n (by omega) (by omega) W
    go_wp2_with fail
    have hWm : (w6.alloc (.cells (madeCells #[.bool false] n) 4)).heap[w6.heap.size]? = some (.cells (bls (List.replicate n false)).toArray 4 (0, 0)) := by
      have h := heap_alloc_new w6 (.cells (madeCells #[.bool false] n) 4)
      have e : (bls (List.replicate n false)).toArray = madeCells #[.bool false] n := by
        apply Array.toList_inj.1; rw [toList_madeCells_one]; simp [bls]
      rw [e]
      exact h
    have hbW : Below w6.heap.size w6 (w6.alloc (.cells (madeCells #[.bool false] n) 4)) := below_alloc _ _
    generalize (w6.alloc (.cells (madeCells #[.bool false] n) 4)) = W at *
    clear hmk
    obtain ⟨B7, hB7⟩ : ∃ B7, B7 = w6.heap.size := ⟨_, rfl⟩
    rw [← hB7] at hWm ⊢
    have HB7 := hid hB7
    clear hB7
    obtain ⟨i0, hi, hz0, hz1, hz2⟩ := info_parts info_gapW
    go_loopw [14] (fun i wr => ∃ (k : Nat) (o : List Bool), k ≤ G'.length ∧ i = .int .i64 k ∧ o.length = n ∧ (∀ m, m < n → o[m]? = some (inB topic dir G' k m)) ∧ wr.heap[B7]? = some (.cells (bls o).toArray 4 (0, 0)) ∧ Below w6.heap.size w6 wr) (fun i _ => G'.length - (intOf i).toNat)
    case atStart => exact ⟨0, List.replicate n false, Nat.zero_le _, rfl, by simp, fun m hm => by rw [inB_zero]; simp [hm], hWm, hbW⟩
    case round =>
      clear hWm hbW
      obtain ⟨k, o, hk, rfl, hol, hoa, hq, hbel⟩ := hrel
      have HOA := hid hoa
      have HQ := hid hq
      have HBL := hid hbel
      clear hoa hq hbel e0 e1 e2 e3 e4 e5 e6 e7
      obtain ⟨e0, e1, e2, e3, e4, e5, e6, e7⟩ := (HA6.below (unhid HBL)).cells
      by_cases hkt : k < G'.length
      · obtain ⟨b, off, rfl, hb, hc⟩ := ((unhid HR7).below (unhid HBL)) (gps_neW hkt)
        obtain ⟨x, m0, m1, m2, m3, m4, m5, x0, x1, x2, hfr, hin⟩ := gap_roundW (unhid HW) hc hkt
        have HFR := hid hfr
        have HIN := hid hin
        clear hc hfr hin
        go_upto_region 15 with (fail)
        clear m0 m1 m2 m3 m4 m5 hb e0 e1 e2 e3 e4 e5 e6 e7
        obtain ⟨wa, hwa⟩ : ∃ wa, wa = wr.alloc (.cells #[.int .i64 x.topic, .int .i64 x.dir, .int .i64 x.fr, .int .i64 x.to, .int .i64 x.has, .int .i64 x.should] 74) := ⟨_, rfl⟩
        have hcell : ∀ i, wa.cell? ⟨wr.heap.size, i, none⟩ = #[Value.int .i64 x.topic, .int .i64 x.dir, .int .i64 x.fr, .int .i64 x.to, .int .i64 x.has, .int .i64 x.should][i]? := fun i => by rw [hwa, World.cell?_alloc_new]
        have g0 := hcell 0
        have g1 := hcell 1
        have g2 := hcell 2
        have g3 := hcell 3
        have g4 := hcell 4
        have g5 := hcell 5
        simp at g0 g1 g2 g3 g4 g5
        have hrx : wa.heap[wr.heap.size]? = some (.cells #[.int .i64 x.topic, .int .i64 x.dir, .int .i64 x.fr, .int .i64 x.to, .int .i64 x.has, .int .i64 x.should] 74 (0, 0)) := by rw [hwa]; exact heap_alloc_new wr _
        have hBLa : Below wr.heap.size wr wa := by rw [hwa]; exact below_alloc _ _
        have hQw := unhid HQ
        have hBw : B7 < wr.heap.size := (Array.getElem?_eq_some_iff.1 hQw).1
        have HQ := hid ((hBLa.block B7 hBw).trans hQw)
        have HBL := hid ((unhid HBL).trans (hBLa.mono (unhid HBL).size))
        rw [← hwa]
        have hsa : wa.heap.size = wr.heap.size + 1 := by rw [hwa]; simp
        obtain ⟨bx, hbx⟩ : ∃ bx, bx = wr.heap.size := ⟨_, rfl⟩
        rw [← hbx] at g0 g1 g2 g3 g4 g5 hBw hsa hrx ⊢
        clear hwa hcell hBLa hQw
        obtain ⟨e0, e1, e2, e3, e4, e5, e6, e7⟩ := (HA6.below (unhid HBL)).cells
        clear hbx
        have hx1 := decide_eq_false (show ¬ x.fr < 0 by omega)
        have hx2 := decide_eq_false (show ¬ x.to ≤ x.fr by omega)
        have hx3 := decide_eq_false (show ¬ (n : Int) < x.to by omega)
        go_wp2_with fail
        obtain ⟨f, hf⟩ := Int.eq_ofNat_of_zero_le x0
        have HF := hid hf
        have HRX := hid hrx
        clear hf hrx
        go_loopw [16] (fun i wz => ∃ (m : Nat) (o2 : List Bool), x.fr ≤ (m : Int) ∧ (m : Int) ≤ x.to ∧ i = .int .i64 m ∧ (x.fr < (m : Int) → x.dir = dir ∧ x.topic = topic) ∧ o2.length = n ∧ (∀ j, j < n → o2[j]? = some (inB topic dir G' k j || decide (x.fr ≤ (j : Int) ∧ j < m))) ∧ wz.heap[B7]? = some (.cells (bls o2).toArray 4 (0, 0)) ∧ wz.heap[bx]? = some (.cells #[.int .i64 x.topic, .int .i64 x.dir, .int .i64 x.fr, .int .i64 x.to, .int .i64 x.has, .int .i64 x.should] 74 (0, 0)) ∧ Below w6.heap.size w6 wz) (fun i _ => (x.to - intOf i).toNat)
        case atStart => exact ⟨f, o, by rw [unhid HF]; omega, by have := unhid HF; omega, by rw [unhid HF], fun h => absurd h (by have := unhid HF; omega), hol, fun j hj => by rw [(unhid HOA) j hj, decide_eq_false (by have := unhid HF; omega), Bool.or_false], unhid HQ, unhid HRX, unhid HBL⟩
        case round =>
          clear g0 g1 g2 g3 g4 g5 e0 e1 e2 e3 e4 e5 e6 e7
          obtain ⟨m, o2, hm1, hm2, rfl, hm3, ho2, ho3, hq2, hrx2, hbel2⟩ := hrel
          have HM3 := hid hm3
          have HO3 := hid ho3
          have HQ2 := hid hq2
          have HRX2 := hid hrx2
          have HBL2 := hid hbel2
          clear hm3 ho3 hq2 hrx2 hbel2
          have hcell : ∀ i, wr.cell? ⟨bx, i, none⟩ = #[Value.int .i64 x.topic, .int .i64 x.dir, .int .i64 x.fr, .int .i64 x.to, .int .i64 x.has, .int .i64 x.should][i]? := fun i => cell_of_row _ bx i _ _ _ (unhid HRX2)
          have g0 := hcell 0
          have g1 := hcell 1
          have g2 := hcell 2
          have g3 := hcell 3
          have g4 := hcell 4
          have g5 := hcell 5
          simp at g0 g1 g2 g3 g4 g5
          clear hcell
          obtain ⟨e0, e1, e2, e3, e4, e5, e6, e7⟩ := (HA6.below (unhid HBL2)).cells
          by_cases hmt : (m : Int) < x.to
          · have := decide_eq_true (show (m : Int) < x.to by omega)
            by_cases hd : x.dir = dir
            · have hd1 : (x.dir == dir) = true := by simpa using hd
              have HD := hid hd
              clear hd
              by_cases ht : x.topic = topic
              · have ht1 : (x.topic == topic) = true := by simpa using ht
                have HT := hid ht
                clear ht
                have hmn : m < n := by omega
                obtain ⟨f1, f2, f3⟩ := (unhid HFR) m (by simp only [gpIn, decide_eq_true_eq]; exact ⟨unhid HT, unhid HD, hm1, hmt⟩)
                have c8 := rd_intsW ((unhid HR8).below (unhid HBL2)) f2
                have c9 := rd_intsW ((unhid HR9).below (unhid HBL2)) f3
                have c7 := rd_blsW (rd_of_rowW (unhid HQ2)) (show o2[m]? = some false by rw [(unhid HO3) m hmn, f1]; simp)
                have hf7 : wr.frozen? ⟨B7, m, none⟩ = false := by simp [World.frozen?, unhid HQ2]
                have hn1 : (x.has != x.has) = false := by simp
                have hn2 : (x.should != x.should) = false := by simp
                clear f1 f2 f3
                go_wp2_with fail
                go_quiet (fail)
                go_wp2_with fail
                go_roundw
                case rel =>
                  refine ⟨m + 1, o2.set m true, by omega, by omega, by go_num, fun _ => ⟨unhid HD, unhid HT⟩, by rw [List.length_set]; exact ho2, fun j hj => ?_, ?_, ?_, Below.setCell (below_drewN' (unhid HBL2) _) (by have := unhid HB7; dsimp only; omega) _⟩
                  · rw [List.getElem?_set]
                    by_cases e : m = j
                    · subst e
                      rw [if_pos rfl, if_pos (by omega), decide_eq_true (show x.fr ≤ (m : Int) ∧ m < m + 1 from ⟨hm1, by omega⟩), Bool.or_true]
                    · rw [if_neg e, (unhid HO3) j hj]
                      congr 2
                      rw [decide_eq_decide]
                      omega
                  · rw [block_set_same (show (wr.drewN _).heap[B7]? = some (.cells (bls o2).toArray 4 (0, 0)) from unhid HQ2)]; simp [bls, List.map_set]
                  · rw [block_set_other _ _ (show bx ≠ B7 by omega)]; exact unhid HRX2
                case measure => simp [intOf]; omega
              · have ht1 : (x.topic == topic) = false := by simpa using ht
                have HT := hid ht
                clear ht
                go_wp2_with fail
                go_roundw
                case rel => exact ⟨k + 1, o2, by omega, by go_num, ho2, fun j hj => by rw [(unhid HO3) j hj, inB_out (unhid HIN) m hm1 hm2 (unhid HM3) (by intro hlt; exact fun hc => unhid HT hc.2)], unhid HQ2, unhid HBL2⟩
                case measure => simp [intOf]; omega
            · have hd1 : (x.dir == dir) = false := by simpa using hd
              have HD := hid hd
              clear hd
              go_wp2_with fail
              go_roundw
              case rel => exact ⟨k + 1, o2, by omega, by go_num, ho2, fun j hj => by rw [(unhid HO3) j hj, inB_out (unhid HIN) m hm1 hm2 (unhid HM3) (by intro hlt; exact fun hc => unhid HD hc.1)], unhid HQ2, unhid HBL2⟩
              case measure => simp [intOf]; omega
          · have := decide_eq_false (show ¬ ((m : Int) < x.to) by omega)
            go_wp2_with fail
            go_roundw
            case rel => exact ⟨k + 1, o2, by omega, by go_num, ho2, fun j hj => by rw [(unhid HO3) j hj, inB_out (unhid HIN) m hm1 hm2 (unhid HM3) (by intro hlt; exact absurd hlt hmt)], unhid HQ2, unhid HBL2⟩
            case measure => simp [intOf]; omega
      · obtain rfl : k = G'.length := by omega
        have HO := hid (show ∀ m, m < n → o[m]? = some (!decide (Hs[m]? = Ms[m]?)) from fun m hm => by rw [(unhid HOA) m hm, (unhid HW).all m hm])
        have HR7' := hid (rd_of_rowW (unhid HQ))
        have HB8 := hid ((unhid HB6).trans ((unhid HBL).mono (unhid HB6).size))
        have HR8 := hid ((unhid HR8).below (unhid HBL))
        have HR9 := hid ((unhid HR9).below (unhid HBL))
        have HA8 := HA6.below (unhid HBL)
        clear HOA HQ HBL
        obtain ⟨w7, rfl⟩ : ∃ w7, w7 = wr := ⟨_, rfl⟩
        go_wp2_with fail
        go_loopw [17] (fun i wz => ∃ (m : Nat), m ≤ n ∧ i = .int .i64 m ∧ Below w7.heap.size w7 wz) (fun i _ => n - (intOf i).toNat)
        case atStart => exact ⟨0, Nat.zero_le _, rfl, Below.refl _ _⟩
        case round =>
          clear e0 e1 e2 e3 e4 e5 e6 e7
          obtain ⟨m, hmle, rfl, hbel2⟩ := hrel
          have HBL2 := hid hbel2
          have HA9 := HA8.below hbel2
          clear hbel2
          obtain ⟨e0, e1, e2, e3, e4, e5, e6, e7⟩ := HA9.cells
          by_cases hmt : m < n
          · have HO1 := hid (holdsE_okW (topic := topic) (m := m) (unhid HOK).line (unhid HOK).signs hho (unhid HOK).dir (unhid HOK).topic (by omega))
            have MU1 := hid (mustE_okW (topic := topic) (m := m) (unhid HOK).line (unhid HOK).eds hho (unhid HOK).dir (unhid HOK).topic (by omega))
            have HB9 := hid ((unhid HB8).trans ((unhid HBL2).mono (unhid HB8).size))
            have hv8 := (unhid HHM) m hmt
            have hv9 := (unhid HMM) m hmt
            have hv7 := (unhid HO) m hmt
            rw [hv8, hv9] at hv7
            have HV8 := hid hv8
            have HV9 := hid hv9
            have HV7 := hid hv7
            clear hv7 hv8 hv9
            go_wp2_with fail
            refine (holds_calls n A js c A2 l c2 hour dir topic m _ ((unhid HL).below (unhid HB9)) ((unhid HS).below (unhid HB9)) (by constructor <;> omega)).mono ?_
            rintro e w9 ⟨v1, rfl, hz1, -, hb9⟩
            rw [unhid HO1]
            obtain ⟨Rr, hRr, hv1⟩ := hz1 (unhid HO1)
            have hv1' : v1 = tdV n js l dir topic m hour := by rw [hv1, rowM_eq hRr (unhid HND)]; rfl
            have HV8 := hid (by have := unhid HV8; rw [← hv1'] at this; exact this)
            have HV7 := hid (by have := unhid HV7; rw [← hv1'] at this; exact this)
            clear hz1 hv1 hRr hv1'
            have HB10 := hid ((unhid HB9).trans (hb9.mono (unhid HB9).size))
            have HBL3 := hid ((unhid HBL2).trans (hb9.mono (unhid HBL2).size))
            have HA10 := HA9.below hb9
            clear hb9 e0 e1 e2 e3 e4 e5 e6 e7 HA9
            obtain ⟨e0, e1, e2, e3, e4, e5, e6, e7⟩ := HA10.cells
            go_wp2_with fail
            refine (must_calls n A js c A3 ed c3 hour dir topic m _ ((unhid HL).below (unhid HB10)) ((unhid HE).below (unhid HB10)) (by constructor <;> omega)).mono ?_
            rintro e w10 ⟨v2, rfl, hz2, -, hb10⟩
            rw [unhid MU1]
            have hv2 := hz2 (unhid MU1)
            have HV9 := hid (by have := unhid HV9; rw [← hv2] at this; exact this)
            have HV7 := hid (by have := unhid HV7; rw [← hv2] at this; exact this)
            clear hz2 hv2
            have HBL4 := hid ((unhid HBL3).trans (hb10.mono (unhid HBL3).size))
            have HA11 := HA10.below hb10
            clear hb10 e0 e1 e2 e3 e4 e5 e6 e7 HA10
            obtain ⟨e0, e1, e2, e3, e4, e5, e6, e7⟩ := HA11.cells
            have c8 := rd_intsW ((unhid HR8).below (unhid HBL4)) (unhid HV8)
            have c9 := rd_intsW ((unhid HR9).below (unhid HBL4)) (unhid HV9)
            have c7 := rd_blsW ((unhid HR7').below (unhid HBL4)) (show o[m]? = some (v1 != v2) by rw [unhid HV7]; congr 1; by_cases e : v1 = v2 <;> simp [e])
            have hn1 : (v1 != v1) = false := by simp
            have hn2 : (v2 != v2) = false := by simp
            generalize hn3 : (v1 != v2) = bb at *
            have hn4 : (bb != bb) = false := by simp
            go_wp2_with fail
            go_roundw
            case rel => exact ⟨m + 1, by omega, by go_num, unhid HBL4⟩
            case measure => simp [intOf]; omega
          · obtain rfl : m = n := by omega
            have HB9 := hid ((unhid HB8).trans ((unhid HBL2).mono (unhid HB8).size))
            have HO0 := hid (holdsE_okW (topic := topic) (m := mm) (hour := 0) (unhid HOK).line (unhid HOK).signs (by omega) (unhid HOK).dir (unhid HOK).topic (by omega))
            have HV8 := hid ((unhid HHM) mm hmm)
            go_wp2_with fail
            rw [unhid HME]
            refine (history_calls m A js c A2 l c2 dir topic mm _ ((unhid HL).below (unhid HB9)) ((unhid HS).below (unhid HB9)) (by constructor <;> omega)).mono ?_
            rintro e w8 ⟨A8, c8, TT, rfl, hz, -, hr10, hl10, hb9⟩
            obtain ⟨hl, hM, hTT⟩ := hz (unhid HO0)
            have HTO := hid (show ToldOk TT hour (tdV m js l dir topic mm hour) from by rw [hTT]; exact toldOk (unhid HOK).line (unhid HOK).signs hho.2 hM)
            rw [unhid HO0]
            have HR10 := hid hr10
            clear hz hM hTT hr10
            have HB10 := hid ((unhid HB9).trans (hb9.mono (unhid HB9).size))
            have HR8 := hid (((unhid HR8).below (unhid HBL2)).below hb9)
            have HA10 := HA9.below hb9
            clear hb9 e0 e1 e2 e3 e4 e5 e6 e7 HA9
            obtain ⟨e0, e1, e2, e3, e4, e5, e6, e7⟩ := HA10.cells
            have c8' := rd_intsW (unhid HR8) (unhid HV8)
            generalize tdV m js l dir topic mm hour = V at *
            go_wp2_with fail
            go_loopw [24, 25, 26] (fun la fb i wz => ∃ (k : Nat) (z : Int) (q : Bool), k ≤ TT.length ∧ i = .int .i64 k ∧ la = .int .i64 z ∧ fb = .bool q ∧ q = decide (hour < z) ∧ z = tilAtW TT k ∧ ∃ nq, wz = w8.drewN nq) (fun _ _ i _ => TT.length - (intOf i).toNat)
            case atStart => exact ⟨0, 0, false, Nat.zero_le _, rfl, rfl, rfl, (decide_eq_false (by omega)).symm, rfl, 0, rfl⟩
            case round =>
              obtain ⟨k, z, q, hk, rfl, rfl, rfl, hq, hz, nq, rfl⟩ := hrel
              have HQ := hid hq
              have HZ := hid hz
              clear hq hz
              by_cases hkt : k < TT.length
              · obtain ⟨b, off, rfl, hb, hc⟩ := (unhid HR10) (tds_ne hkt)
                obtain ⟨t, v, m0, m1, m2, hN, hea, hvl⟩ := told_roundW (unhid HTO) hc hkt (unhid HZ)
                clear hc
                have HN := hid hN
                have HVL := hid hvl
                clear hN hvl
                have hn1 : (z != z) = false := bne_self_eq_false z
                have ht1 := decide_eq_false (show ¬ t ≤ z by omega)
                have hkk : (k : Int) < (TT.length : Int) := by omega
                go_wp2_with fail
                by_cases h1 : z ≤ hour
                · have := decide_eq_true (show z ≤ hour by omega)
                  by_cases h2 : hour < t
                  · have hvv := (unhid HVL) h1 h2
                    subst hvv
                    have := decide_eq_true (show hour < t by omega)
                    have hn2 : (v == v) = true := by simp
                    go_quiet (fail)
                    go_wp2_with fail
                    go_quiet (fail)
                    go_wp2_with fail
                    go_roundw
                    case rel => exact ⟨k + 1, t, true, by omega, by go_num, rfl, rfl, (decide_eq_true h2).symm, unhid HN, _, rfl⟩
                    case measure => simp [intOf]; omega
                  · have := decide_eq_false (show ¬ (hour < t) by omega)
                    go_quiet (fail)
                    go_wp2_with fail
                    go_roundw
                    case rel => exact ⟨k + 1, t, q, by omega, by go_num, rfl, rfl, by rw [unhid HQ, decide_eq_decide]; omega, unhid HN, _, rfl⟩
                    case measure => simp [intOf]; omega
                · have := decide_eq_false (show ¬ (z ≤ hour) by omega)
                  go_quiet (fail)
                  go_wp2_with fail
                  go_roundw
                  case rel => exact ⟨k + 1, t, q, by omega, by go_num, rfl, rfl, by rw [unhid HQ, decide_eq_decide]; omega, unhid HN, _, rfl⟩
                  case measure => simp [intOf]; omega
              · obtain rfl : k = TT.length := by omega
                obtain rfl : z = 10000001 := (unhid HZ).trans (told_endW (unhid HTO))
                have hq : q = true := by rw [unhid HQ]; exact decide_eq_true (by omega)
                subst hq
                clear HQ HZ
                go_wp2_with (go_at_call 10; refine (first_calls _).mono ?_; rintro e w9 ⟨rfl, hb9⟩)
                go_ret
                exact ⟨rfl, (below_drewN' (unhid HB10) nq).trans (hb9.mono (below_drewN' (unhid HB10) nq).size)⟩
  · rw [Bool.not_eq_true] at hrt
    rw [hrt]
    go_wp2_with fail
    refine (first_calls _).mono ?_
    rintro e w2 ⟨rfl, hb2⟩
    go_wp2_with fail
    go_ret
    exact ⟨rfl, (unhid HB1).trans (hb2.mono (unhid HB1).size)⟩
end

end Go.Proofs.YtmpngoejnmlmbaaGreat
