/-
  The stretches of a strip: (strip).held; Held.
-/
import Derived.Test.YtmpngoejnmlmbaaGreatStrip
set_option linter.unusedSimpArgs false
set_option linter.unusedVariables false
namespace Go.Proofs.YtmpngoejnmlmbaaGreat
open Go.RowKit

structure Hd where
  fr : Int
  to : Int
  val : Int
def hdC (h : Hd) : List Value := [.int .i64 h.fr, .int .i64 h.to, .int .i64 h.val]
def hds (l : List Hd) : List Value := l.flatMap hdC
def hdStep (out : List Hd) (m v : Int) : List Hd :=
  match out.getLast? with
  | some h => if h.to = m ∧ h.val = v then out.set (out.length - 1) ⟨h.fr, h.to + 1, h.val⟩ else if v = 0 then out else out ++ [⟨m, m + 1, v⟩]
  | none => if v = 0 then out else out ++ [⟨m, m + 1, v⟩]
def hdRun (s : List Int) (k : Nat) : List Hd := (List.range k).foldl (fun (out : List Hd) (m : Nat) => hdStep out m (s.getD m 0)) []
def heldP (s : List Int) : List Hd := hdRun s s.length
theorem hdRun_succ (s : List Int) (k : Nat) (hk : k < s.length) : hdRun s (k + 1) = hdStep (hdRun s k) k s[k] := by
  rw [hdRun, List.range_succ, List.foldl_append]; simp [hdRun, hk]
theorem hdStep_len (out : List Hd) (m v : Int) : (hdStep out m v).length ≤ out.length + 1 := by
  unfold hdStep
  split
  · split
    · simp
    · split <;> simp
  · split <;> simp
theorem hdRun_len (s : List Int) (k : Nat) : (hdRun s k).length ≤ k := by
  induction k with
  | zero => simp [hdRun]
  | succ k ih =>
    rw [hdRun, List.range_succ, List.foldl_append]
    have := hdStep_len (hdRun s k) k (s.getD k 0)
    simp only [List.foldl_cons, List.foldl_nil]
    show (hdStep (hdRun s k) k (s.getD k 0)).length ≤ k + 1
    omega
theorem hds_set (l : List Hd) (q : Nat) (x : Int) (hq : q < l.length) : (hds l).set (q * 3 + 1) (.int .i64 x) = hds (l.set q ⟨l[q].fr, x, l[q].val⟩) := by
  induction l generalizing q with
  | nil => simp at hq
  | cons h t ih =>
    cases q with
    | zero => simp [hds, hdC]
    | succ q =>
      have e : (q + 1) * 3 + 1 = (q * 3 + 1) + 3 := by omega
      have := ih q (by simpa using hq)
      simp only [hds, List.flatMap_cons, List.set_cons_succ, List.getElem_cons_succ] at this ⊢
      rw [← this, e]
      simp [hdC]
theorem info_held : (Tryz.prog.info? 81).map (fun i => (i.zero, i.size, i.bytes)) = some (some (.agg #[.int .i64 0, .int .i64 0, .int .i64 0]), 3, 24) := by kernel_rfl

theorem own_some {w : World} {base e size n : Nat} {v : Value} {xs : List Value} (h : w.ownsRow base e size v n xs) (hn : 0 < n) : ∃ g c, v = .slice (some ⟨g, 0, none⟩) n c ∧ base ≤ g ∧ g < w.heap.size ∧ ∀ j u, xs[j]? = some u → w.cell? ⟨g, j, none⟩ = some u := by
  have h0 := h
  obtain ⟨hlen, hf⟩ := h
  rcases hf with ⟨rfl, rfl⟩ | ⟨g, cap, cur, rfl, hb, hh, hnc, hcap, hcs, htk⟩
  · omega
  · refine ⟨g, cap, rfl, hb, (Array.getElem?_eq_some_iff.1 hh).1, fun j u hu => ?_⟩
    rw [cell_of_row w g j cur e (0, 0) hh, ← Array.getElem?_toList]
    rw [← htk] at hu
    rcases Nat.lt_or_ge j (n * size) with h | h
    · rwa [List.getElem?_take_of_lt h] at hu
    · rw [List.getElem?_eq_none (by simp; omega)] at hu; cases hu

set_option maxHeartbeats 4000000 in
set_option maxRecDepth 100000 in
theorem held_calls (A : Option Addr) (s : List Int) (c : Nat) (w : World) (hr : Rd w A (ints s)) (hn : s.length ≤ 100000) :
    Calls Tryz.prog 41 #[.slice A s.length c] w fun e w' =>
      ∃ (A' : Option Addr) (c' : Nat), e = .returned (.slice A' (heldP s).length c') ∧ Rd w' A' (hds (heldP s)) ∧ Below w.heap.size w w' := by
  have HR := hid hr
  clear hr
  obtain ⟨i0, hi, hz0, hz1, hz2⟩ := info_parts info_held
  go_enter Tryz.func41, Tryz.ntmps41
  go_wp2_with fail
  go_loopw [9, 3] (fun i v wr => ∃ k : Nat, k ≤ s.length ∧ i = .int .i64 k ∧ wr.ownsRow w.heap.size 81 3 v (hdRun s k).length (hds (hdRun s k)) ∧ Below w.heap.size w wr) (fun i _ _ => s.length - (intOf i).toNat)
  case atStart => exact ⟨0, Nat.zero_le _, rfl, World.ownsRow_nil _ _ _ _, Below.refl _ _⟩
  case round =>
    obtain ⟨k, hk, rfl, hown, hbel⟩ := hrel
    have hlen := hdRun_len s k
    by_cases hlt : k < s.length
    · obtain ⟨b, off, rfl, hb, hc⟩ := (unhid HR) (ints_ne hlt)
      have hck : wr.cell? ⟨b, off + k, none⟩ = some (.int .i64 s[k]) := (hbel.cell (p := ⟨b, _, none⟩) hb).trans (hc k _ (ints_at s k hlt))
      have HSC := hid (hdRun_succ s k hlt)
      clear hc
      have hbwr : b < wr.heap.size := Nat.lt_of_lt_of_le hb hbel.size
      generalize hx : s[k] = x at *
      clear hx
      generalize hout : hdRun s k = out at *
      clear hout
      rcases Nat.eq_zero_or_pos out.length with h0 | h0
      · have HLAST := hid (show out.getLast? = none by rw [List.getLast?_eq_none_iff]; exact List.eq_nil_of_length_eq_zero h0)
        rw [h0] at hown
        obtain ⟨A0, c0, rfl, -⟩ := own_slice hown
        have HOWN := hid hown
        clear hown
        by_cases hx0 : x = 0
        · subst hx0
          have HNX := hid (show hdRun s (k + 1) = out by rw [unhid HSC]; simp [hdStep, unhid HLAST])
          go_wp2_with fail
          go_roundw
          case rel => exact ⟨k + 1, by omega, by go_num, by rw [unhid HNX, h0]; exact unhid HOWN, hbel⟩
          case measure => simp [intOf]; omega
        · have hx0' : (x != 0) = true := by simpa using hx0
          have HNX := hid (show hdRun s (k + 1) = out ++ [⟨k, k + 1, x⟩] by rw [unhid HSC]; simp [hdStep, unhid HLAST, hx0])
          clear hx0
          go_wp2_with (at_builtin; refine wpList_append_own _ rfl _ _ 31 rfl w.heap.size 81 i0 (.agg #[.int .i64 0, .int .i64 0, .int .i64 0]) 3 24 Tryz.underlying31 hi hz0 hz1 hz2 rfl (by decide) _ _ _ rfl ((unhid HOWN).alloc _) ⟨wr.heap.size, 0, none⟩ 1 1 [.int .i64 k, .int .i64 (k + 1), .int .i64 x] rfl rfl ?c1 ?c2 ?c3 ?c4 ?c5 ?_)
          case c1 =>
            intro j u hj
            match j, hj with
            | 0, hj => simp at hj; subst hj; simp [Addr.add, go_sem]
            | 1, hj => simp at hj; subst hj; simp [Addr.add, go_sem]
            | 2, hj => simp at hj; subst hj; simp [Addr.add, go_sem]
          case c2 => intro u hu; simp at hu; rcases hu with rfl | rfl | rfl <;> rfl
          case c3 => unfold maxLen; omega
          case c4 => omega
          case c5 => have := hbel.size; simp; omega
          intro v' w3 hown3 hg3 _
          have hb3 : Below w.heap.size w w3 := by
            refine Below.grown (hbel.alloc hbel.size _) hg3 (by have := hbel.size; simp; omega) (fun i hi => ?_)
            rcases Nat.lt_or_ge i w.heap.size with h | h
            · exact absurd hi (own_ne (unhid HOWN) (Or.inl h))
            · exact h
          have HO3 := hid hown3
          clear hown3 hg3
          go_wp2_with fail
          go_roundw
          case rel =>
            refine ⟨k + 1, by omega, by go_num, ?_, hb3⟩
            have h5 := unhid HO3
            rw [unhid HNX, show (out ++ [(⟨k, k + 1, x⟩ : Hd)]).length = 0 + 1 from by simp [h0], show hds (out ++ [(⟨k, k + 1, x⟩ : Hd)]) = hds out ++ [.int .i64 k, .int .i64 (k + 1), .int .i64 x] from by simp [hds, hdC]]
            exact h5
          case measure => simp [intOf]; omega
      · obtain ⟨g, cg, rfl, hbg, hgs, hcells⟩ := own_some hown h0
        obtain ⟨q, hq⟩ : ∃ q, out.length = q + 1 := ⟨out.length - 1, by omega⟩
        have c1 : wr.cell? ⟨g, q * 3 + 1, none⟩ = some (.int .i64 (out[q]'(by omega)).to) := hcells _ _ (flat_at (f := hdC) (K := 3) (fun _ => rfl) out q 1 (by omega) (by omega))
        have c2 : wr.cell? ⟨g, q * 3 + 2, none⟩ = some (.int .i64 (out[q]'(by omega)).val) := hcells _ _ (flat_at (f := hdC) (K := 3) (fun _ => rfl) out q 2 (by omega) (by omega))
        have f1 := hown.frozenAt (q * 3 + 1)
        have HLAST := hid (show out.getLast? = some (out[q]'(by omega)) by rw [List.getLast?_eq_getElem?, List.getElem?_eq_getElem (by omega)]; congr 1; simp [hq])
        have HOWN := hid hown
        clear hown hcells
        generalize hy : out[q] = y at *
        have HY := hid hy
        clear hy
        rcases (show (¬ y.to = k) ∨ (y.to = k ∧ ¬ y.val = x) ∨ (y.to = k ∧ y.val = x) by omega) with e | ⟨e, e2⟩ | ⟨e, e2⟩
        · have e' : (y.to == (k : Int)) = false := by simpa using e
          have HE := hid e
          clear e
          by_cases hx0 : x = 0
          · subst hx0
            have HNX := hid (show hdRun s (k + 1) = out by rw [unhid HSC]; simp [hdStep, unhid HLAST, unhid HE])
            go_wp2_with fail
            go_roundw
            case rel => exact ⟨k + 1, by omega, by go_num, by rw [unhid HNX]; exact unhid HOWN, hbel⟩
            case measure => simp [intOf]; omega
          · have hx0' : (x != 0) = true := by simpa using hx0
            have HNX := hid (show hdRun s (k + 1) = out ++ [⟨k, k + 1, x⟩] by rw [unhid HSC]; simp [hdStep, unhid HLAST, unhid HE, hx0])
            clear hx0
            go_wp2_with (at_builtin; refine wpList_append_own _ rfl _ _ 31 rfl w.heap.size 81 i0 (.agg #[.int .i64 0, .int .i64 0, .int .i64 0]) 3 24 Tryz.underlying31 hi hz0 hz1 hz2 rfl (by decide) _ _ _ rfl ((unhid HOWN).alloc _) ⟨wr.heap.size, 0, none⟩ 1 1 [.int .i64 k, .int .i64 (k + 1), .int .i64 x] rfl rfl ?c1 ?c2 ?c3 ?c4 ?c5 ?_)
            case c1 =>
              intro j u hj
              match j, hj with
              | 0, hj => simp at hj; subst hj; simp [Addr.add, go_sem]
              | 1, hj => simp at hj; subst hj; simp [Addr.add, go_sem]
              | 2, hj => simp at hj; subst hj; simp [Addr.add, go_sem]
            case c2 => intro u hu; simp at hu; rcases hu with rfl | rfl | rfl <;> rfl
            case c3 => unfold maxLen; omega
            case c4 => omega
            case c5 => have := hbel.size; simp; omega
            intro v' w3 hown3 hg3 _
            have hb3 : Below w.heap.size w w3 := by
              refine Below.grown (hbel.alloc hbel.size _) hg3 (by have := hbel.size; simp; omega) (fun i hi => ?_)
              rcases Nat.lt_or_ge i w.heap.size with h | h
              · exact absurd hi (own_ne (unhid HOWN) (Or.inl h))
              · exact h
            have HO3 := hid hown3
            clear hown3 hg3
            go_wp2_with fail
            go_roundw
            case rel =>
              refine ⟨k + 1, by omega, by go_num, ?_, hb3⟩
              have h5 := unhid HO3
              rw [unhid HNX, show (out ++ [(⟨k, k + 1, x⟩ : Hd)]).length = out.length + 1 from by simp, show hds (out ++ [(⟨k, k + 1, x⟩ : Hd)]) = hds out ++ [.int .i64 k, .int .i64 (k + 1), .int .i64 x] from by simp [hds, hdC]]
              rw [hq]
              exact h5
            case measure => simp [intOf]; omega
        · have e' : (y.to == (k : Int)) = true := by simpa using e
          have e2' : (y.val == x) = false := by simpa using e2
          have HE := hid e2
          clear e e2
          by_cases hx0 : x = 0
          · subst hx0
            have HNX := hid (show hdRun s (k + 1) = out by rw [unhid HSC]; simp [hdStep, unhid HLAST, unhid HE])
            go_wp2_with fail
            go_roundw
            case rel => exact ⟨k + 1, by omega, by go_num, by rw [unhid HNX]; exact unhid HOWN, hbel⟩
            case measure => simp [intOf]; omega
          · have hx0' : (x != 0) = true := by simpa using hx0
            have HNX := hid (show hdRun s (k + 1) = out ++ [⟨k, k + 1, x⟩] by rw [unhid HSC]; simp [hdStep, unhid HLAST, unhid HE, hx0])
            clear hx0
            go_wp2_with (at_builtin; refine wpList_append_own _ rfl _ _ 31 rfl w.heap.size 81 i0 (.agg #[.int .i64 0, .int .i64 0, .int .i64 0]) 3 24 Tryz.underlying31 hi hz0 hz1 hz2 rfl (by decide) _ _ _ rfl ((unhid HOWN).alloc _) ⟨wr.heap.size, 0, none⟩ 1 1 [.int .i64 k, .int .i64 (k + 1), .int .i64 x] rfl rfl ?c1 ?c2 ?c3 ?c4 ?c5 ?_)
            case c1 =>
              intro j u hj
              match j, hj with
              | 0, hj => simp at hj; subst hj; simp [Addr.add, go_sem]
              | 1, hj => simp at hj; subst hj; simp [Addr.add, go_sem]
              | 2, hj => simp at hj; subst hj; simp [Addr.add, go_sem]
            case c2 => intro u hu; simp at hu; rcases hu with rfl | rfl | rfl <;> rfl
            case c3 => unfold maxLen; omega
            case c4 => omega
            case c5 => have := hbel.size; simp; omega
            intro v' w3 hown3 hg3 _
            have hb3 : Below w.heap.size w w3 := by
              refine Below.grown (hbel.alloc hbel.size _) hg3 (by have := hbel.size; simp; omega) (fun i hi => ?_)
              rcases Nat.lt_or_ge i w.heap.size with h | h
              · exact absurd hi (own_ne (unhid HOWN) (Or.inl h))
              · exact h
            have HO3 := hid hown3
            clear hown3 hg3
            go_wp2_with fail
            go_roundw
            case rel =>
              refine ⟨k + 1, by omega, by go_num, ?_, hb3⟩
              have h5 := unhid HO3
              rw [unhid HNX, show (out ++ [(⟨k, k + 1, x⟩ : Hd)]).length = out.length + 1 from by simp, show hds (out ++ [(⟨k, k + 1, x⟩ : Hd)]) = hds out ++ [.int .i64 k, .int .i64 (k + 1), .int .i64 x] from by simp [hds, hdC]]
              rw [hq]
              exact h5
            case measure => simp [intOf]; omega
        · have e' : (y.to == (k : Int)) = true := by simpa using e
          have e2' : (y.val == x) = true := by simpa using e2
          have HNX := hid (show hdRun s (k + 1) = out.set q ⟨y.fr, y.to + 1, y.val⟩ by rw [unhid HSC]; simp [hdStep, unhid HLAST, e, e2, hq])
          have hk2 : -9223372036854775808 ≤ y.to + 1 ∧ y.to + 1 ≤ 9223372036854775807 := by omega
          clear e e2
          go_wp2_with fail
          go_roundw
          case rel =>
            have hs := (unhid HOWN).stored (q * 3 + 1) (.int .i64 (y.to + 1))
            refine ⟨k + 1, by omega, by go_num, ?_, ?_⟩
            · rw [unhid HNX, List.length_set, ← unhid HY, ← hds_set out q _ (by omega), unhid HY]
              exact hs.1
            · exact Below.setCell hbel hbg _
          case measure => simp [intOf]; omega
    · have hks : k = s.length := by omega
      subst hks
      obtain ⟨A3, c3, rfl, hrd3, -⟩ := own_slice hown
      have HO := hid hown
      clear hown
      go_wp2_with fail
      go_ret
      exact ⟨A3, c3, rfl, hrd3, hbel⟩

end Go.Proofs.YtmpngoejnmlmbaaGreat
