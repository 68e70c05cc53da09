/-
  How far a start reaches: package rule's reach.
-/
import Derived.Test.YtmpngoejnmlmbaaGreatSays
set_option linter.unusedSimpArgs false
set_option linter.unusedVariables false
namespace Go.Proofs.YtmpngoejnmlmbaaGreat
open Go.RowKit

/-- The least of a number and the distances of junctions behind a distance. -/
def junMin (len dir far : Int) (js : List Int) (e : Int) : Int := js.foldl (fun e j => if far < distI len dir j then min e (distI len dir j) else e) e
def reachP (len : Int) (js : List Int) (R : List Mt) (i : Nat) (dir : Int) : Int :=
  match R[i]?, R[i + 1]? with
  | some a, some b => junMin len dir a.far js (if platedP R i = true then min len (a.far + b.s.val) else len)
  | some a, none => junMin len dir a.far js len
  | _, _ => 0
theorem reachP_yes {len : Int} {js : List Int} {R : List Mt} {i : Nat} {dir : Int} (h : i + 1 < R.length) (hp : platedP R i = true) : reachP len js R i dir = junMin len dir R[i].far js (min len (R[i].far + R[i + 1].s.val)) := by
  rw [reachP, List.getElem?_eq_getElem h, List.getElem?_eq_getElem (show i < R.length by omega)]; simp [hp]
theorem reachP_no {len : Int} {js : List Int} {R : List Mt} {i : Nat} {dir : Int} (h : i < R.length) (hp : platedP R i = false) : reachP len js R i dir = junMin len dir R[i].far js len := by
  rw [reachP, List.getElem?_eq_getElem h]; split <;> simp_all
theorem platedP_lt {R : List Mt} {i : Nat} (h : platedP R i = true) : i + 1 < R.length := by
  rcases Nat.lt_or_ge (i + 1) R.length with h1 | h1
  · exact h1
  · rw [platedP_no (by omega)] at h; cases h
theorem junMin_snoc (len dir far : Int) (js : List Int) (e : Int) {k : Nat} (hk : k < js.length) :
    junMin len dir far (js.take (k + 1)) e = if far < distI len dir js[k] then min (junMin len dir far (js.take k) e) (distI len dir js[k]) else junMin len dir far (js.take k) e := by
  rw [List.take_succ_eq_append_getElem hk, junMin, junMin, List.foldl_append]; rfl

def RowOk (len : Int) (R : List Mt) : Prop := ∀ m ∈ R, 0 ≤ m.far ∧ m.far ≤ len ∧ 0 ≤ m.s.val ∧ m.s.val ≤ 100000

set_option maxHeartbeats 4000000 in
set_option maxRecDepth 100000 in
theorem reach_calls (len : Int) (A : Option Addr) (js : List Int) (c : Nat) (A2 : Option Addr) (R : List Mt) (c2 : Nat) (i : Nat) (dir : Int) (w : World) (hi : i < R.length) (hl : LnOk w A js) (hj : ∀ j ∈ js, 0 ≤ j ∧ j ≤ len) (hlen : len ≤ 100000)
    (hr : Rd w A2 (mts R)) (hn : R.length ≤ 100000000000) (hok : RowOk len R) :
    Calls Tryz.prog 94 #[.agg #[.int .i64 len, .slice A js.length c], .slice A2 R.length c2, .int .i64 i, .int .i64 dir] w fun e w' =>
      e = .returned (.int .i64 (reachP len js R i dir)) ∧ Below w.heap.size w w' := by
  obtain ⟨b, off, rfl, hb, hc⟩ := hr (mts_ne hi)
  have HL := hid hl
  have hln := hl.n
  have HJ := hid hj
  have HC := hid hc
  obtain ⟨-, -, -, -, -, -, -, -, -, m9⟩ := mts_cells hc hi
  have hoki := hok _ (List.getElem_mem hi)
  have HOK := hid hok
  clear hl hj hc hok
  go_enter Tryz.func94, Tryz.ntmps94
  go_wp2_with fail
  refine (plated_calls (some ⟨b, off, none⟩) R c2 i hi _ (hr.alloc _) hn).mono ?_
  rintro e w1 ⟨rfl, n1, rfl⟩
  cases hp : platedP R i with
  | true =>
    have h1 := platedP_lt hp
    obtain ⟨-, -, n2, -⟩ := mts_cells (unhid HC) h1
    have hok1 := (unhid HOK) _ (List.getElem_mem h1)
    have HR := hid (reachP_yes (len := len) (js := js) (dir := dir) h1 hp)
    generalize hx : R[i] = x at *
    generalize hy : R[i + 1] = y at *
    have HX := hid hx
    clear hx hy
    have HP := hid hp
    clear hp
    go_wp2_with fail
    go_quiet (fail)
    go_wp2_with fail
    have hline0 : ((w.alloc (.cells #[.int .i64 len, .slice A js.length c] 24)).drewN (n1 + nq)).cell? ⟨w.heap.size, 0, none⟩ = some (.int .i64 len) := by simp [go_sem]
    have hline1 : ((w.alloc (.cells #[.int .i64 len, .slice A js.length c] 24)).drewN (n1 + nq)).cell? ⟨w.heap.size, 1, none⟩ = some (.slice A js.length c) := by simp [go_sem]
    have hbW : Below w.heap.size w ((w.alloc (.cells #[.int .i64 len, .slice A js.length c] 24)).drewN (n1 + nq)) := below_drewN' (below_alloc _ _) _
    have hszW : w.heap.size < ((w.alloc (.cells #[.int .i64 len, .slice A js.length c] 24)).drewN (n1 + nq)).heap.size := by simp
    generalize ((w.alloc (.cells #[.int .i64 len, .slice A js.length c] 24)).drewN (n1 + nq)) = W at hline0 hline1 hbW hszW ⊢
    go_loopw [36, 9] (fun k e wr => ∃ n : Nat, n ≤ js.length ∧ k = .int .i64 n ∧ e = .int .i64 (junMin len dir x.far (js.take n) (min len (x.far + y.s.val))) ∧ Below W.heap.size W wr) (fun k _ _ => js.length - (intOf k).toNat)
    case atStart => exact ⟨0, Nat.zero_le _, rfl, by simp [junMin], Below.refl _ _⟩
    case round =>
      obtain ⟨k, hk, rfl, rfl, hbel⟩ := hrel
      have hbw : Below w.heap.size w wr := hbW.trans (hbel.mono hbW.size)
      have l0 : wr.cell? ⟨w.heap.size, 0, none⟩ = _ := (hbel.cell (p := ⟨w.heap.size, 0, none⟩) hszW).trans hline0
      have l1 : wr.cell? ⟨w.heap.size, 1, none⟩ = _ := (hbel.cell (p := ⟨w.heap.size, 1, none⟩) hszW).trans hline1
      have hbwr : b < wr.heap.size := Nat.lt_of_lt_of_le hb hbw.size
      have m9' : wr.cell? ⟨b, off + i * 10 + 9, none⟩ = _ := (hbw.cell (p := ⟨b, _, none⟩) hb).trans m9
      by_cases hlt : k < js.length
      · obtain ⟨b3, off3, hA3, hb3, hc3⟩ := (unhid HL).rd (ints_ne hlt)
        rw [hA3]
        rw [hA3] at l1 hline1
        have HA3 := hid hA3
        clear hA3
        have hjk : wr.cell? ⟨b3, off3 + k, none⟩ = some (.int .i64 js[k]) := (hbw.cell (p := ⟨b3, _, none⟩) hb3).trans (hc3 k _ (ints_at js k hlt))
        have hjb := (unhid HJ) _ (List.getElem_mem hlt)
        have HSN := hid (junMin_snoc len dir x.far js (min len (x.far + y.s.val)) hlt)
        clear hc3
        generalize hjx : js[k] = j at *
        clear hjx
        generalize hE : junMin len dir x.far (js.take k) (min len (x.far + y.s.val)) = E at *
        clear hE
        go_wp2_with fail
        refine (distance_calls len _ js.length c dir j _ hjb.1 hjb.2 hlen).mono ?_
        rintro e w2 ⟨rfl, rfl⟩
        generalize hd : distI len dir j = d at *
        have HD := hid hd
        clear hd
        by_cases hfd : x.far < d
        · go_wp2_with fail
          go_roundw
          case rel => exact ⟨k + 1, by omega, by go_num, by rw [unhid HSN, if_pos hfd], below_alloc' hbel _ |>.trans (Below.refl _ _)⟩
          case measure => simp [intOf]; omega
        · go_wp2_with fail
          go_roundw
          case rel => exact ⟨k + 1, by omega, by go_num, by rw [unhid HSN, if_neg (by omega)], below_alloc' hbel _⟩
          case measure => simp [intOf]; omega
      · go_wp2_with fail
        go_ret
        refine ⟨?_, hbw⟩
        rw [unhid HR, List.take_of_length_le (by omega)]
        rfl
  | false =>
    have HR := hid (reachP_no (len := len) (js := js) (dir := dir) hi hp)
    generalize hx : R[i] = x at *
    have HX := hid hx
    clear hx
    have HP := hid hp
    clear hp
    go_wp2_with fail
    have hline0 : ((w.alloc (.cells #[.int .i64 len, .slice A js.length c] 24)).drewN n1).cell? ⟨w.heap.size, 0, none⟩ = some (.int .i64 len) := by simp [go_sem]
    have hline1 : ((w.alloc (.cells #[.int .i64 len, .slice A js.length c] 24)).drewN n1).cell? ⟨w.heap.size, 1, none⟩ = some (.slice A js.length c) := by simp [go_sem]
    have hbW : Below w.heap.size w ((w.alloc (.cells #[.int .i64 len, .slice A js.length c] 24)).drewN n1) := below_drewN' (below_alloc _ _) _
    have hszW : w.heap.size < ((w.alloc (.cells #[.int .i64 len, .slice A js.length c] 24)).drewN n1).heap.size := by simp
    generalize ((w.alloc (.cells #[.int .i64 len, .slice A js.length c] 24)).drewN n1) = W at hline0 hline1 hbW hszW ⊢
    go_loopw [36, 9] (fun k e wr => ∃ n : Nat, n ≤ js.length ∧ k = .int .i64 n ∧ e = .int .i64 (junMin len dir x.far (js.take n) len) ∧ Below W.heap.size W wr) (fun k _ _ => js.length - (intOf k).toNat)
    case atStart => exact ⟨0, Nat.zero_le _, rfl, by simp [junMin], Below.refl _ _⟩
    case round =>
      obtain ⟨k, hk, rfl, rfl, hbel⟩ := hrel
      have hbw : Below w.heap.size w wr := hbW.trans (hbel.mono hbW.size)
      have l0 : wr.cell? ⟨w.heap.size, 0, none⟩ = _ := (hbel.cell (p := ⟨w.heap.size, 0, none⟩) hszW).trans hline0
      have l1 : wr.cell? ⟨w.heap.size, 1, none⟩ = _ := (hbel.cell (p := ⟨w.heap.size, 1, none⟩) hszW).trans hline1
      have hbwr : b < wr.heap.size := Nat.lt_of_lt_of_le hb hbw.size
      have m9' : wr.cell? ⟨b, off + i * 10 + 9, none⟩ = _ := (hbw.cell (p := ⟨b, _, none⟩) hb).trans m9
      by_cases hlt : k < js.length
      · obtain ⟨b3, off3, hA3, hb3, hc3⟩ := (unhid HL).rd (ints_ne hlt)
        rw [hA3]
        rw [hA3] at l1 hline1
        have HA3 := hid hA3
        clear hA3
        have hjk : wr.cell? ⟨b3, off3 + k, none⟩ = some (.int .i64 js[k]) := (hbw.cell (p := ⟨b3, _, none⟩) hb3).trans (hc3 k _ (ints_at js k hlt))
        have hjb := (unhid HJ) _ (List.getElem_mem hlt)
        have HSN := hid (junMin_snoc len dir x.far js len hlt)
        clear hc3
        generalize hjx : js[k] = j at *
        clear hjx
        generalize hE : junMin len dir x.far (js.take k) len = E at *
        clear hE
        go_wp2_with fail
        refine (distance_calls len _ js.length c dir j _ hjb.1 hjb.2 hlen).mono ?_
        rintro e w2 ⟨rfl, rfl⟩
        generalize hd : distI len dir j = d at *
        have HD := hid hd
        clear hd
        by_cases hfd : x.far < d
        · go_wp2_with fail
          go_roundw
          case rel => exact ⟨k + 1, by omega, by go_num, by rw [unhid HSN, if_pos hfd], below_alloc' hbel _ |>.trans (Below.refl _ _)⟩
          case measure => simp [intOf]; omega
        · go_wp2_with fail
          go_roundw
          case rel => exact ⟨k + 1, by omega, by go_num, by rw [unhid HSN, if_neg (by omega)], below_alloc' hbel _⟩
          case measure => simp [intOf]; omega
      · go_wp2_with fail
        go_ret
        refine ⟨?_, hbw⟩
        rw [unhid HR, List.take_of_length_le (by omega)]
        rfl

end Go.Proofs.YtmpngoejnmlmbaaGreat
