/-
  A proposed sign; slices.Contains of numbers. Proposed signs. Plain: no walk. A variable of a list type that a closure shares with its maker, and the row that it owns. The closure of package rule's Propose. Package rule's Propose.
-/
import Derived.Test.YtmpngoejnmlmbaaGreatSigns
import Derived.Laws.NewBlocks
import Derived.Test.YtmpngoejnmlmbaaGreatRowM
import Derived.Test.YtmpngoejnmlmbaaGreatCmpK
import Derived.Test.YtmpngoejnmlmbaaGreatWalkG
import Derived.Deep.RegionHeld3
import Derived.Deep.AppendLies
set_option linter.unusedSimpArgs false
set_option linter.unusedVariables false
namespace Go.Proofs.YtmpngoejnmlmbaaGreat
open Go.RowKit

section
def postS (number topic value chain dir hour : Int) : Sg :=
  { num := number, kind := if topic = 1 ∧ value ≠ 0 then 1 else if topic = 2 ∧ value ≠ 0 then 3 else if topic = 2 then 4 else 2, val := if topic = 1 ∧ value ≠ 0 then value else 0,
    chain := chain, dir := dir, rank := topic, up := hour, down := hour + 1, cA := none, cov := [], cc := 0 }

set_option maxHeartbeats 1000000 in
theorem post_calls (number topic value chain dir hour : Int) (w : World) (hh : 0 ≤ hour ∧ hour ≤ 10000000) :
    Calls Tryz.prog 63 #[.int .i64 number, .int .i64 topic, .int .i64 value, .int .i64 chain, .int .i64 dir, .int .i64 hour] w fun e w' => e = .returned (postS number topic value chain dir hour).v ∧ Below w.heap.size w w' := by
  have hx : IntKind.i64.wrap (hour + 1) = hour + 1 := IntWalk.i64_in _ (by omega)
  rcases (show (topic = 1 ∧ ¬ value = 0) ∨ (topic = 1 ∧ value = 0) ∨ (topic = 2 ∧ ¬ value = 0) ∨ (topic = 2 ∧ value = 0) ∨ (¬ topic = 1 ∧ ¬ topic = 2) by omega) with ⟨rfl, hv⟩ | ⟨rfl, rfl⟩ | ⟨rfl, hv⟩ | ⟨rfl, rfl⟩ | ⟨h1, h2⟩
  · have b1 : (value == 0) = false := by simpa using hv
    have b2 : (value != 0) = true := by simpa using hv
    go_enter Tryz.func63, Tryz.ntmps63
    go_wp2_with fail
    (try simp only [Exit.inBlock, Exit.then]); refine bodyPost_ret_by (v := (postS _ _ _ _ _ _).v) ?_ rfl ⟨rfl, below_alloc' (below_alloc _ _) _⟩
    have hres : Tryz.f63.results = #[.cell 12 80] := rfl
    simp [results, hres, go_sem, postS, Sg.v]; exact hv
  · go_enter Tryz.func63, Tryz.ntmps63
    go_wp2_with fail
    (try simp only [Exit.inBlock, Exit.then]); refine bodyPost_ret_by (v := (postS _ _ _ _ _ _).v) ?_ rfl ⟨rfl, below_alloc' (below_alloc _ _) _⟩
    have hres : Tryz.f63.results = #[.cell 12 80] := rfl
    simp [results, hres, go_sem, postS, Sg.v]
  · have b1 : (value == 0) = false := by simpa using hv
    have b2 : (value != 0) = true := by simpa using hv
    go_enter Tryz.func63, Tryz.ntmps63
    go_wp2_with fail
    (try simp only [Exit.inBlock, Exit.then]); refine bodyPost_ret_by (v := (postS _ _ _ _ _ _).v) ?_ rfl ⟨rfl, below_alloc' (below_alloc _ _) _⟩
    have hres : Tryz.f63.results = #[.cell 12 80] := rfl
    simp [results, hres, go_sem, postS, Sg.v]; exact hv
  · go_enter Tryz.func63, Tryz.ntmps63
    go_wp2_with fail
    (try simp only [Exit.inBlock, Exit.then]); refine bodyPost_ret_by (v := (postS _ _ _ _ _ _).v) ?_ rfl ⟨rfl, below_alloc' (below_alloc _ _) _⟩
    have hres : Tryz.f63.results = #[.cell 12 80] := rfl
    simp [results, hres, go_sem, postS, Sg.v]
  · have b1 : (topic == 1) = false := by simpa using h1
    have b2 : (topic == 2) = false := by simpa using h2
    go_enter Tryz.func63, Tryz.ntmps63
    go_wp2_with fail
    (try simp only [Exit.inBlock, Exit.then]); refine bodyPost_ret_by (v := (postS _ _ _ _ _ _).v) ?_ rfl ⟨rfl, below_alloc' (below_alloc _ _) _⟩
    have hres : Tryz.f63.results = #[.cell 12 80] := rfl
    simp [results, hres, go_sem, postS, Sg.v, h1, h2]

set_option maxHeartbeats 1000000 in
theorem index_calls (A : Option Addr) (js : List Int) (c : Nat) (v : Int) (w : World) (hr : Rd w A (ints js)) (hn : js.length ≤ 1000000000) :
    Calls Tryz.prog 101 #[.slice A js.length c, .int .i64 v] w fun e w' => (∃ r : Int, e = .returned (.int .i64 r) ∧ (v ∈ js → 0 ≤ r) ∧ (¬ v ∈ js → r = -1)) ∧ ∃ n, w' = w.drewN n := by
  have HR := hid hr
  clear hr
  go_enter Tryz.func101, Tryz.ntmps101
  go_wp2_with fail
  go_loopw [8] (fun i wr => ∃ k : Nat, k ≤ js.length ∧ i = .int .i64 k ∧ (∀ x ∈ js.take k, ¬ x = v) ∧ ∃ n, wr = w.drewN n) (fun i _ => js.length - (intOf i).toNat)
  case atStart => exact ⟨0, Nat.zero_le _, rfl, by simp, 0, rfl⟩
  case round =>
    obtain ⟨k, hk, rfl, hne, n, rfl⟩ := hrel
    have HN := hid hne
    clear hne
    by_cases hlt : k < js.length
    · obtain ⟨b, off, rfl, hb, hc⟩ := (unhid HR) (ints_ne hlt)
      have c0 := hc k _ (ints_at js k hlt)
      clear hc
      have HM := hid (show js[k] ∈ js from List.getElem_mem _)
      have HT := hid (show js.take (k + 1) = js.take k ++ [js[k]] from List.take_succ_eq_append_getElem hlt)
      generalize js[k] = x at *
      by_cases hx : v = x
      · have hx' : (v == x) = true := by simpa using hx
        have HX := hid hx
        clear hx
        go_wp2_with fail
        go_ret
        exact ⟨⟨k, rfl, fun _ => by omega, fun h => absurd (unhid HX ▸ unhid HM) h⟩, n, rfl⟩
      · have hx' : (v == x) = false := by simpa using hx
        have HX := hid hx
        clear hx
        go_wp2_with fail
        go_roundw
        case rel => exact ⟨k + 1, by omega, by go_num, fun y hy => by
          rw [unhid HT] at hy
          rcases List.mem_append.1 hy with h | h
          · exact unhid HN y h
          · simp at h; subst h; exact fun e => unhid HX e.symm, n, rfl⟩
        case measure => simp [intOf]; omega
    · go_wp2_with fail
      go_ret
      have hall : ∀ x ∈ js, ¬ x = v := fun x hx => unhid HN x (by rw [List.take_of_length_le (by omega)]; exact hx)
      exact ⟨⟨-1, rfl, fun h => absurd rfl (hall v h), fun _ => rfl⟩, n, rfl⟩

open Classical in
theorem contains_calls (A : Option Addr) (js : List Int) (c : Nat) (v : Int) (w : World) (hr : Rd w A (ints js)) (hn : js.length ≤ 1000000000) :
    Calls Tryz.prog 62 #[.slice A js.length c, .int .i64 v] w fun e w' => e = .returned (.bool (decide (v ∈ js))) ∧ ∃ n, w' = w.drewN n := by
  have HR := hid hr
  clear hr
  go_enter Tryz.func62, Tryz.ntmps62
  go_wp2_with fail
  refine (index_calls A js c v _ (unhid HR) hn).mono ?_
  rintro e w' ⟨⟨r, rfl, h1, h2⟩, n, rfl⟩
  by_cases hv : v ∈ js
  · have hr0 := h1 hv
    have HV := hid (decide_eq_true hv)
    clear hv
    have := decide_eq_true (show (0 : Int) ≤ r by omega)
    clear h1 h2
    go_wp2_with fail
    go_ret
    exact ⟨retb (by rw [unhid HV]; first | done | (simpa using hr0)), n, rfl⟩
  · have hr0 := h2 hv
    have HV := hid (decide_eq_false hv)
    clear hv
    subst hr0
    clear h1 h2
    go_wp2_with fail
    go_ret
    exact ⟨retb (by rw [unhid HV]; first | done | rfl), n, rfl⟩
end

section
open Classical in
noncomputable def nowP (n : Int) (js : List Int) (dir : Int) (now : Int) (k : Nat) : Int := if distI n dir k ∈ js then 0 else now
noncomputable def ppStep (n : Int) (js : List Int) (must : List Int) (topic dir hour : Int) (st : List Sg × Int) (k : Nat) : List Sg × Int :=
  if must.getD (metreI n dir k).toNat 0 = nowP n js dir st.2 k then (st.1, nowP n js dir st.2 k)
  else (st.1 ++ [postS (st.1.length + 1) topic (must.getD (metreI n dir k).toNat 0) (distI n dir k) dir hour], must.getD (metreI n dir k).toNat 0)
noncomputable def ppRun (n : Int) (js : List Int) (must : List Int) (topic dir hour : Int) (out : List Sg) (k : Nat) : List Sg × Int :=
  (List.range k).foldl (ppStep n js must topic dir hour) (out, 0)
theorem ppRun_succ (n : Int) (js : List Int) (must : List Int) (topic dir hour : Int) (out : List Sg) (k : Nat) :
    ppRun n js must topic dir hour out (k + 1) = ppStep n js must topic dir hour (ppRun n js must topic dir hour out k) k := by
  simp [ppRun, List.range_succ]
theorem ppStep_len (n : Int) (js : List Int) (must : List Int) (topic dir hour : Int) (st : List Sg × Int) (k : Nat) :
    st.1.length ≤ (ppStep n js must topic dir hour st k).1.length ∧ (ppStep n js must topic dir hour st k).1.length ≤ st.1.length + 1 := by
  unfold ppStep; split <;> simp
theorem ppRun_len (n : Int) (js : List Int) (must : List Int) (topic dir hour : Int) (out : List Sg) (k : Nat) :
    out.length ≤ (ppRun n js must topic dir hour out k).1.length ∧ (ppRun n js must topic dir hour out k).1.length ≤ out.length + k := by
  induction k with
  | zero => simp [ppRun]
  | succ k ih => rw [ppRun_succ]; have := ppStep_len n js must topic dir hour (ppRun n js must topic dir hour out k) k; omega
noncomputable def ppAll (n : Nat) (js : List Int) (ed : List Ed) (hour : Int) : Nat → List Sg
  | 0 => []
  | i + 1 => (ppRun n js (mustM n ed hour (topI i) (dirI i)) (topI i) (dirI i) hour (ppAll n js ed hour i) n).1
theorem ppAll_len (n : Nat) (js : List Int) (ed : List Ed) (hour : Int) (i : Nat) : (ppAll n js ed hour i).length ≤ i * n := by
  induction i with
  | zero => simp [ppAll]
  | succ i ih =>
    have := (ppRun_len n js (mustM n ed hour (topI i) (dirI i)) (topI i) (dirI i) hour (ppAll n js ed hour i) n).2
    rw [ppAll, Nat.succ_mul]; omega

/-- What package rule's Propose returns beside the signs. -/
noncomputable def propE (len : Int) (js : List Int) (ed : List Ed) (hour : Int) : Int := if allE len js [] ed hour ≠ 0 then allE len js [] ed hour else if 100 < (ppAll len.toNat js ed hour 4).length then 2 else 0
def PropPost (len : Int) (js : List Int) (ed : List Ed) (hour : Int) (w : World) (e : Ending) (w' : World) : Prop :=
  ∃ (A' : Option Addr) (c' : Nat) (G : List Sg), e = .returned (.tuple #[.slice A' G.length c', .int .i64 (propE len js ed hour)]) ∧
    (propE len js ed hour = 0 → G = ppAll len.toNat js ed hour 4) ∧ (propE len js ed hour ≠ 0 → G = []) ∧ Rd w' A' (signs G) ∧ G.length ≤ 100 ∧ (∀ s ∈ G, s.cov = []) ∧ Below w.heap.size w w'

theorem ppStep_cov (n : Int) (js : List Int) (must : List Int) (topic dir hour : Int) (st : List Sg × Int) (k : Nat) (h : ∀ s ∈ st.1, s.cov = [] ∧ s.cA = none ∧ s.cc = 0) : ∀ s ∈ (ppStep n js must topic dir hour st k).1, s.cov = [] ∧ s.cA = none ∧ s.cc = 0 := by
  unfold ppStep
  split
  · exact h
  · intro s hs
    rcases List.mem_append.1 hs with h1 | h1
    · exact h s h1
    · simp at h1; subst h1; exact ⟨rfl, rfl, rfl⟩
theorem ppRun_cov (n : Int) (js : List Int) (must : List Int) (topic dir hour : Int) (out : List Sg) (k : Nat) (h : ∀ s ∈ out, s.cov = [] ∧ s.cA = none ∧ s.cc = 0) : ∀ s ∈ (ppRun n js must topic dir hour out k).1, s.cov = [] ∧ s.cA = none ∧ s.cc = 0 := by
  induction k with
  | zero => exact h
  | succ k ih => rw [ppRun_succ]; exact ppStep_cov _ _ _ _ _ _ _ _ ih
theorem ppAll_cov (n : Nat) (js : List Int) (ed : List Ed) (hour : Int) (i : Nat) : ∀ s ∈ ppAll n js ed hour i, s.cov = [] ∧ s.cA = none ∧ s.cc = 0 := by
  induction i with
  | zero => intro s hs; cases hs
  | succ i ih => exact ppRun_cov _ _ _ _ _ _ _ _ ih
end

section
/-- Blocks that do not change, and a variable O with its own row of n elements. -/
structure BoxI (w w0 : World) (bx : List (Nat × Array Value × TypeId)) (O : Nat) (ts te size : Nat) (v : Value) (n : Nat) (xs : List Value) : Prop where
  bx : ∀ q ∈ bx, q.1 < O ∧ w.heap[q.1]? = some (.cells q.2.1 q.2.2 (0, 0))
  o : w.heap[O]? = some (.cells #[v] ts (0, 0))
  own : w.ownsRow (O + 1) te size v n xs
  below : Below w0.heap.size w0 w
  base : w0.heap.size ≤ O

variable {w w' w0 wS : World} {bx : List (Nat × Array Value × TypeId)} {O ts te size n : Nat} {v : Value} {xs : List Value}

theorem BoxI.lt (h : BoxI w w0 bx O ts te size v n xs) : O < w.heap.size := (Array.getElem?_eq_some_iff.1 h.o).1
theorem BoxI.kept (h : BoxI w w0 bx O ts te size v n xs) (hb : Below w.heap.size w w') : BoxI w' w0 bx O ts te size v n xs := by
  have hO := h.lt
  have k : ∀ i, i ≤ O → w'.heap[i]? = w.heap[i]? := fun i hi => hb.block i (by omega)
  exact ⟨fun q hq => ⟨(h.bx q hq).1, (k _ (by have := (h.bx q hq).1; omega)).trans (h.bx q hq).2⟩, (k _ (Nat.le_refl _)).trans h.o, own_below h.own hb, h.below.trans (hb.mono h.below.size), h.base⟩
theorem BoxI.setO (h : BoxI w w0 bx O ts te size v n xs) {v2 : Value} {n2 : Nat} {xs2 : List Value} {w3 : World} (hown : w3.ownsRow (O + 1) te size v2 n2 xs2)
    {o : Obj} (hg : (w.alloc o).grownBy w3 v.ownBlock) : BoxI (w3.setCell ⟨O, 0, none⟩ v2) w0 bx O ts te size v2 n2 xs2 := by
  have hO := h.lt
  have hsz := hg.size
  simp at hsz
  have k : ∀ i, i < w.heap.size → v.ownBlock ≠ some i → w3.heap[i]? = w.heap[i]? := fun i hi hne => by
    rw [hg.block i (by simp; omega) (fun e => hne e.symm), Below.heap_alloc _ _ _ hi]
  have k2 : ∀ i, i ≤ O → w3.heap[i]? = w.heap[i]? := fun i hi => k i (by omega) (fun e => by have := own_lt' h.own e; omega)
  have h5 := h.base
  refine ⟨fun q hq => ?_, ?_, ?_, ?_, h5⟩
  · have := h.bx q hq
    refine ⟨this.1, ?_⟩
    rw [block_set_other _ _ (by omega)]; exact (k2 _ (by omega)).trans this.2
  · exact block_set_same ((k2 _ (Nat.le_refl _)).trans h.o) 0 _
  · exact own_set hown (g := O) (by omega) 0 _
  · refine Below.setCell (Below.grown (h.below.alloc h.below.size o) hg (by simp; omega) (fun i hi => ?_)) (by dsimp only; omega) _
    have := own_lt' h.own hi; omega
/-- What stays while elements are laid. -/
theorem GpFr.push' {gS : Option Nat} {w3 : World} {v2 : Value} {o : Obj} (hb : BoxI w w0 bx O ts te size v n xs) (hf : GpFr wS w O gS v) (hg : (w.alloc o).grownBy w3 v.ownBlock)
    (hn : ∀ g, v2.ownBlock = some g → v.ownBlock = some g ∨ w.heap.size ≤ g) : GpFr wS (w3.setCell ⟨O, 0, none⟩ v2) O gS v2 := by
  have hO := hb.lt
  have hsz := hg.size
  simp at hsz
  have k : ∀ i, i < w.heap.size → v.ownBlock ≠ some i → w3.heap[i]? = w.heap[i]? := fun i hi hne => by
    rw [hg.block i (by simp; omega) (fun e => hne e.symm), Below.heap_alloc _ _ _ hi]
  refine ⟨?_, fun b hb hb1 hb2 => ?_, fun g hg' => ?_⟩
  · have := hf.size; simp; omega
  · rw [block_set_other _ _ hb1, k b (by have := hf.size; omega) (fun e => ?_)]
    · exact hf.same b hb hb1 hb2
    · rcases hf.ob _ e with h6 | h6
      · exact hb2 h6
      · omega
  · rcases hn g hg' with h6 | h6
    · exact hf.ob g h6
    · exact .inr (by have := hf.size; omega)
end

section
theorem info_sign2 : (Tryz.prog.info? 80).map (fun i => (i.zero, i.size, i.bytes)) = some (some (.agg #[.int .i64 0, .int .i64 0, .int .i64 0, .int .i64 0, .int .i64 0, .int .i64 0, .int .i64 0, .int .i64 0, .slice none 0 0]), 9, 88) := by kernel_rfl
theorem GpFr.kept' {wS w w2 : World} {O : Nat} {gS : Option Nat} {v : Value} (hf : GpFr wS w O gS v) (hb : Below w.heap.size w w2) : GpFr wS w2 O gS v :=
  ⟨Nat.le_trans hf.size hb.size, fun b h1 h2 h3 => (hb.block b (Nat.lt_of_lt_of_le h1 hf.size)).trans (hf.same b h1 h2 h3), hf.ob⟩

def propBx (n : Nat) (A : Option Addr) (k c : Nat) (A3 : Option Addr) (k3 c3 : Nat) (hour : Int) (bl be bh : Nat) : List (Nat × Array Value × TypeId) :=
  [(bl, #[.int .i64 n, .slice A k c], 24), (be, #[.slice A3 k3 c3], 26), (bh, #[.int .i64 hour], 3)]
theorem propBx_cells {w w0 : World} {n : Nat} {A : Option Addr} {k c : Nat} {A3 : Option Addr} {k3 c3 : Nat} {hour : Int} {bl be bh O ts te size m : Nat} {v : Value} {xs : List Value} (st : BoxI w w0 (propBx n A k c A3 k3 c3 hour bl be bh) O ts te size v m xs) :
    w.cell? ⟨bl, 0, none⟩ = some (.int .i64 n) ∧ w.cell? ⟨bl, 1, none⟩ = some (.slice A k c) ∧ w.cell? ⟨be, 0, none⟩ = some (.slice A3 k3 c3) ∧ w.cell? ⟨bh, 0, none⟩ = some (.int .i64 hour) ∧ w.cell? ⟨O, 0, none⟩ = some v ∧ w.frozen? ⟨O, 0, none⟩ = false := by
  have h1 := (st.bx (bl, #[.int .i64 n, .slice A k c], 24) (by simp [propBx])).2
  have h2 := (st.bx (be, #[.slice A3 k3 c3], 26) (by simp [propBx])).2
  have h3 := (st.bx (bh, #[.int .i64 hour], 3) (by simp [propBx])).2
  have l0 := cell_of_row _ bl 0 _ _ _ h1
  have l1 := cell_of_row _ bl 1 _ _ _ h1
  simp at l0 l1
  exact ⟨l0, l1, cell_of_one h2, cell_of_one h3, cell_of_one st.o, free_of_one st.o⟩
theorem propBx_lt {w w0 : World} {n : Nat} {A : Option Addr} {k c : Nat} {A3 : Option Addr} {k3 c3 : Nat} {hour : Int} {bl be bh O ts te size m : Nat} {v : Value} {xs : List Value} (st : BoxI w w0 (propBx n A k c A3 k3 c3 hour bl be bh) O ts te size v m xs) : bl < O ∧ be < O ∧ bh < O :=
  ⟨(st.bx (bl, #[.int .i64 n, .slice A k c], 24) (by simp [propBx])).1, (st.bx (be, #[.slice A3 k3 c3], 26) (by simp [propBx])).1, (st.bx (bh, #[.int .i64 hour], 3) (by simp [propBx])).1⟩

theorem ppStep_same {n : Int} {js must : List Int} {topic dir hour : Int} {st : List Sg × Int} {k : Nat} {nw x : Int} (h1 : nowP n js dir st.2 k = nw) (h2 : must.getD (metreI n dir k).toNat 0 = x) (h3 : x = nw) : ppStep n js must topic dir hour st k = (st.1, nw) := by
  unfold ppStep; rw [h1, h2, if_pos h3]
theorem ppStep_push {n : Int} {js must : List Int} {topic dir hour : Int} {st : List Sg × Int} {k : Nat} {nw x : Int} (h1 : nowP n js dir st.2 k = nw) (h2 : must.getD (metreI n dir k).toNat 0 = x) (h3 : ¬ x = nw) : ppStep n js must topic dir hour st k = (st.1 ++ [postS (st.1.length + 1) topic x (distI n dir k) dir hour], x) := by
  unfold ppStep; rw [h1, h2, if_neg h3]

theorem Calls.bel_alloc {P : Program} {f : FuncId} {args : Array Value} {wr W : World} {v : Value} {o : Obj} (hb : Below wr.heap.size wr W) (h : Calls P f args W fun e w' => e = .returned v ∧ w' = W.alloc o) : Calls P f args W fun e w' => e = .returned v ∧ Below wr.heap.size wr w' :=
  h.mono fun _ _ h => ⟨h.1, by rw [h.2]; exact below_alloc' hb _⟩
theorem Calls.bel_drew {P : Program} {f : FuncId} {args : Array Value} {wr W : World} {v : Value} (hb : Below wr.heap.size wr W) (h : Calls P f args W fun e w' => e = .returned v ∧ ∃ n, w' = W.drewN n) : Calls P f args W fun e w' => e = .returned v ∧ Below wr.heap.size wr w' :=
  h.mono fun _ _ h => ⟨h.1, by obtain ⟨m, hm⟩ := h.2; rw [hm]; exact below_drewN' hb _⟩

set_option maxHeartbeats 8000000 in
set_option maxRecDepth 100000 in
theorem prop_calls (n : Nat) (A : Option Addr) (js : List Int) (c : Nat) (A3 : Option Addr) (ed : List Ed) (c3 : Nat) (hour topic dir : Int) (bl be bh O : Nat) (w0 w : World) (out : List Sg) (Ao : Option Addr) (co : Nat)
    (hl : LnOk w0 A js) (he : EdsOk w0 A3 ed) (hv : lineB n js = true) (hv3 : edsB n js ed = true) (hh : 0 ≤ hour ∧ hour ≤ 10000000)
    (st : BoxI w w0 (propBx n A js.length c A3 ed.length c3 hour bl be bh) O 25 80 9 (.slice Ao out.length co) out.length (signs out)) (hol : out.length ≤ 1000000) :
    Calls Tryz.prog 60 #[.int .i64 topic, .int .i64 dir, .pointer (some ⟨bl, 0, none⟩), .pointer (some ⟨be, 0, none⟩), .pointer (some ⟨bh, 0, none⟩), .pointer (some ⟨O, 0, none⟩)] w fun e w' =>
      e = .returned (.tuple #[]) ∧ ∃ (A' : Option Addr) (c' : Nat),
        BoxI w' w0 (propBx n A js.length c A3 ed.length c3 hour bl be bh) O 25 80 9 (.slice A' (ppRun n js (mustM n ed hour topic dir) topic dir hour out n).1.length c') (ppRun n js (mustM n ed hour topic dir) topic dir hour out n).1.length (signs (ppRun n js (mustM n ed hour topic dir) topic dir hour out n).1) := by
  have hlen2 := lineB_len hv
  have hj50 : js.length ≤ 50 := by have := hv; simp [lineB, lineP] at this; omega
  have HEB := hid (edsB_bounds hv3)
  have hl50 := edsB_len hv3
  have HEN := hid (edsB_nodup hv3)
  have HL0 := hid hl
  have HEw := hid (he.below st.below)
  clear hl he hv hv3
  obtain ⟨i0, hi, hz0, hz1, hz2⟩ := info_parts info_sign2
  obtain ⟨l0, l1, e0, h0, o0, -⟩ := propBx_cells st
  obtain ⟨b1, b3, b4⟩ := propBx_lt st
  have b5 := st.lt
  have HOw := hid st.own
  have ST := hid st
  clear st
  go_enter Tryz.func60, Tryz.ntmps60
  go_wp2_with fail
  refine (mustStrip_calls n A js.length c A3 ed c3 hour dir topic _ hlen2.2 (unhid HEw).rd (by omega) (unhid HEB) (unhid HEN)).mono ?_
  rintro e wS ⟨A5, rfl, hrd5, hbS, hf5⟩
  rw [show mustS n ed hour dir topic = mustM n ed hour topic dir from rfl] at hrd5
  have HST := hid ((unhid ST).kept hbS)
  clear l0 l1 e0 h0 o0
  obtain ⟨l0, l1, e0, h0, o0, -⟩ := propBx_cells (unhid HST)
  have HH5 := hid (show (mustM n ed hour topic dir).length = n from mustS_len _ _ _ _ _)
  generalize hMS : mustM n ed hour topic dir = MS at *
  have HMS := hid hMS
  clear hMS
  have HR5 := hid hrd5
  have hrl5 := unhid HH5
  obtain ⟨gS, hgS⟩ : ∃ gS, gS = (Value.slice Ao out.length co).ownBlock := ⟨_, rfl⟩
  have HGS := hid hgS
  have HF0 := hid (show GpFr wS wS O gS (.slice Ao out.length co) from ⟨Nat.le_refl _, fun _ _ _ _ => rfl, fun g hg => .inl (by rw [unhid HGS]; exact hg)⟩)
  have N5 := hid (fun a (h : A5 = some a) => (show a.block ≠ O ∧ gS ≠ some a.block from by
    have h1 := hf5 a h
    refine ⟨by omega, fun e => ?_⟩
    rw [unhid HGS] at e
    have := (own_lt' (unhid HOw) e).2; omega))
  clear hgS hrd5 hf5 HEw hbS b5
  go_wp2_with fail
  clear l0 l1 e0 h0 o0
  go_loopw [9, 21] (fun nw i wr => ∃ (k : Nat) (o : List Sg) (A6 : Option Addr) (c6 : Nat), k ≤ n ∧ i = .int .i64 k ∧ nw = .int .i64 (ppRun n js MS topic dir hour out k).2 ∧ o = (ppRun n js MS topic dir hour out k).1 ∧ BoxI wr w0 (propBx n A js.length c A3 ed.length c3 hour bl be bh) O 25 80 9 (.slice A6 o.length c6) o.length (signs o) ∧ GpFr wS wr O gS (.slice A6 o.length c6)) (fun _ i _ => n - (intOf i).toNat)
  case atStart => exact ⟨0, out, Ao, co, Nat.zero_le _, rfl, rfl, rfl, unhid HST, unhid HF0⟩
  case round =>
    clear HST HF0 HOw
    obtain ⟨k, o, A6, c6, hk, rfl, rfl, ho, hI, hF⟩ := hrel
    have holen := ppRun_len n js MS topic dir hour out k
    rw [← ho] at holen
    have HI := hid hI
    have HF := hid hF
    have HOE := hid ho
    have hSU := ppRun_succ n js MS topic dir hour out k
    clear hI hF
    by_cases hlt : k < n
    · clear ho
      generalize hst : ppRun n js MS topic dir hour out k = st at *
      obtain ⟨o2, nw0⟩ := st
      obtain rfl : o = o2 := unhid HOE
      dsimp only
      have hmi := metreI_lt (len := n) (dir := dir) (k := k) (by omega) (by omega)
      obtain ⟨q, hq⟩ := Int.eq_ofNat_of_zero_le hmi.1
      have hqn : q < n := by omega
      have hr5 := (unhid HF).rd (unhid HR5) (fun a h => (unhid N5 a h).1) (fun a h => (unhid N5 a h).2)
      obtain ⟨b5, off5, rfl, hb5, hc5⟩ := hr5 (ints_ne (k := q) (by omega))
      have c5 := hc5 q _ (ints_at MS q (by omega))
      have hgd : MS.getD (metreI n dir k).toNat 0 = MS[q]'(by omega) := by rw [hq]; simp [List.getD_eq_getElem?_getD, List.getElem?_eq_getElem (show q < MS.length by omega)]
      clear hc5 hr5
      generalize MS[q]'(by omega) = x at *
      have HGD := hid hgd
      have HSU := hid hSU
      have KD := hid (fun (W : World) (hb : Below wr.heap.size wr W) => Calls.bel_alloc hb (distance_calls n A js.length c dir k W (by omega) (by omega) hlen2.2))
      have KM := hid (fun (W : World) (hb : Below wr.heap.size wr W) => Calls.bel_alloc hb (metre_calls n A js.length c dir k W (by omega) (by omega) hlen2.2))
      rw [hq] at KM
      have KC := hid (fun (W : World) (hb : Below wr.heap.size wr W) => Calls.bel_drew hb (contains_calls A js c (distI n dir k) W (((unhid HL0).below (unhid HI).below).rd.below hb) (by omega)))
      obtain ⟨nw, hnw⟩ : ∃ nw, nw = nowP n js dir nw0 k := ⟨_, rfl⟩
      have hnw2 : nw = if distI n dir k ∈ js then 0 else nw0 := hnw
      have HNW := hid hnw
      clear hgd hSU hmi hq hnw hst
      have HLT := hid (propBx_lt (unhid HI))
      have hIlt := (unhid HI).lt
      generalize hch : distI n dir k = ch at *
      have HCH := hid hch
      clear hch
      obtain ⟨l0, l1, e0, h0, o0, -⟩ := propBx_cells (unhid HI)
      go_wp2_with fail
      refine ((unhid KD) wr (Below.refl _ _)).mono ?_
      rintro e w2 ⟨rfl, hb2⟩
      clear l0 l1 e0 h0 o0
      obtain ⟨l0, l1, e0, h0, o0, -⟩ := propBx_cells ((unhid HI).kept hb2)
      have hIlt2 := Nat.lt_of_lt_of_le hIlt hb2.size
      go_wp2_with fail
      refine ((unhid KC) _ hb2).mono ?_
      rintro e w3 ⟨rfl, hb3⟩
      clear l0 l1 e0 h0 o0 hb2 hIlt2
      obtain ⟨l0, l1, e0, h0, o0, -⟩ := propBx_cells ((unhid HI).kept hb3)
      have hB3 := hb3
      by_cases hjc : ch ∈ js
      · rw [if_pos hjc] at hnw2
        have hdj := decide_eq_true hjc
        have HJC := hid hjc
        clear hjc
        rw [hdj]
        go_wp2_with fail
        refine ((unhid KM) _ hB3).mono ?_
        rintro e w4 ⟨rfl, hb4⟩
        clear l0 l1 e0 h0 o0
        have HI := hid ((unhid HI).kept hb4)
        have HF := hid ((unhid HF).kept' hb4)
        have c5' : w4.cell? ⟨b5, off5 + q, none⟩ = some (.int .i64 x) := (hb4.cell (p := ⟨b5, off5 + q, none⟩) hb5).trans c5
        clear c5 hb3 hB3 KD KC KM hb4 hb5 hIlt
        have c5 := c5'
        clear c5'
        obtain ⟨l0, l1, e0, h0, o0, f0⟩ := propBx_cells (unhid HI)
        have hIlt := (unhid HI).lt
        obtain ⟨bLO, bEO, bHO⟩ := unhid HLT
        by_cases hx : x = nw
        · have hx' : (x == nw) = true := by simpa using hx
          have HNX := hid ((unhid HSU).trans (ppStep_same (st := (o, nw0)) (unhid HNW).symm (unhid HGD) hx))
          subst hnw2
          have HX := hid hx
          clear hx
          go_wp2_with fail
          go_roundw
          case rel => exact ⟨k + 1, o, A6, c6, by omega, by go_num, by rw [unhid HNX], by rw [unhid HNX], unhid HI, unhid HF⟩
          case measure => simp [intOf]; omega
        · have hx' : (x == nw) = false := by simpa using hx
          have HNX := hid ((unhid HSU).trans (ppStep_push (st := (o, nw0)) (unhid HNW).symm (unhid HGD) hx))
          subst hnw2
          have HX := hid hx
          clear hx
          have hk1 : IntKind.i64.wrap ((o.length : Int) + 1) = (o.length : Int) + 1 := IntWalk.i64_in _ (by omega)
          have KP := hid (fun (W : World) => post_calls (o.length + 1) topic x ch dir hour W hh)
          dsimp only at HNX
          rw [unhid HCH] at HNX
          generalize hsg : postS (o.length + 1) topic x ch dir hour = sg at *
          unfold Sg.v at KP
          have HSG := hid (show sg.cov = [] ∧ sg.cA = none ∧ sg.cc = 0 from by rw [← hsg]; exact ⟨rfl, rfl, rfl⟩)
          clear hsg
          go_wp2_with fail
          refine wp_region_noPanic ?_
          refine wp_region_E (S := fun w' => w'.cell? ⟨O, 0, none⟩ = some (.slice A6 o.length c6) ∧ w'.cell? ⟨bh, 0, none⟩ = some (.int .i64 hour)) 12 13 rfl (by kernel_rfl) (by kernel_rfl) ⟨o0, h0⟩ ?_
          intro hSE
          (refine WE_take (i := 0) (v := ?_) rfl (by kernel_rfl) (by decide) (by kernel_rfl) (by kernel_rfl) (fun _ _ _ h => h) (by rfl) hSE ?_ ?_; rotate_left; (focus (intro w hSw; (try dsimp only at hSw); go_simp; (try with_reducible rfl))); simp only [Act.put, List.setIfInBounds_toArray, List.set_cons_zero, List.set_cons_succ])
          (refine WE_take (i := 1) (v := ?_) rfl (by kernel_rfl) (by decide) (by kernel_rfl) (by kernel_rfl) (fun _ _ _ h => h) (by rfl) hSE ?_ ?_; rotate_left; (focus (intro w hSw; (try dsimp only at hSw); go_simp; (try with_reducible rfl))); simp only [Act.put, List.setIfInBounds_toArray, List.set_cons_zero, List.set_cons_succ])
          (refine WE_take (i := 2) (v := ?_) rfl (by kernel_rfl) (by decide) (by kernel_rfl) (by kernel_rfl) (fun _ _ _ h => h) (by rfl) hSE ?_ ?_; rotate_left; (focus (intro w hSw; (try dsimp only at hSw); go_simp; (try with_reducible rfl))); simp only [Act.put, List.setIfInBounds_toArray, List.set_cons_zero, List.set_cons_succ])
          (refine WE_take (i := 3) (v := ?_) rfl (by kernel_rfl) (by decide) (by kernel_rfl) (by kernel_rfl) (fun _ _ _ h => h) (by rfl) hSE ?_ ?_; rotate_left; (focus (intro w hSw; (try dsimp only at hSw); go_simp; (try with_reducible rfl))); simp only [Act.put, List.setIfInBounds_toArray, List.set_cons_zero, List.set_cons_succ])
          (refine WE_take (i := 4) (v := ?_) rfl (by kernel_rfl) (by decide) (by kernel_rfl) (by kernel_rfl) (fun _ _ _ h => h) (by rfl) hSE ?_ ?_; rotate_left; (focus (intro w hSw; (try dsimp only at hSw); go_simp; (try with_reducible rfl))); simp only [Act.put, List.setIfInBounds_toArray, List.set_cons_zero, List.set_cons_succ])
          (refine WE_take (i := 5) (v := ?_) rfl (by kernel_rfl) (by decide) (by kernel_rfl) (by kernel_rfl) (fun _ _ _ h => h) (by rfl) hSE ?_ ?_; rotate_left; (focus (intro w hSw; (try dsimp only at hSw); go_simp; (try with_reducible rfl))); simp only [Act.put, List.setIfInBounds_toArray, List.set_cons_zero, List.set_cons_succ])
          (refine WE_take (i := 6) (v := ?_) rfl (by kernel_rfl) (by decide) (by kernel_rfl) (by kernel_rfl) (fun _ _ _ h => h) (by rfl) hSE ?_ ?_; rotate_left; (focus (intro w hSw; (try dsimp only at hSw); go_simp; (try with_reducible rfl))); simp only [Act.put, List.setIfInBounds_toArray, List.set_cons_zero, List.set_cons_succ])
          (refine WE_take (i := 7) (v := ?_) rfl (by kernel_rfl) (by decide) (by kernel_rfl) (by kernel_rfl) (fun _ _ _ h => h) (by rfl) hSE ?_ ?_; rotate_left; (focus (intro w hSw; (try dsimp only at hSw); go_simp; (try with_reducible rfl))); simp only [Act.put, List.setIfInBounds_toArray, List.set_cons_zero, List.set_cons_succ])
          (refine WE_take (i := 8) (v := ?_) rfl (by kernel_rfl) (by decide) (by kernel_rfl) (by kernel_rfl) (fun _ _ _ h => h) (by rfl) hSE ?_ ?_; rotate_left; (focus (intro w hSw; (try dsimp only at hSw); go_simp; (try with_reducible rfl))); simp only [Act.put, List.setIfInBounds_toArray, List.set_cons_zero, List.set_cons_succ])
          (refine WE_one (i := 9) rfl (by decide) (by kernel_rfl) ?_; intro K hK)
          go_simp
          go_at_call 63
          refine ((unhid KP) _).mono ?_; rintro e w5 ⟨rfl, hb5⟩; have hb5' : Below w4.heap.size w4 w5 := (Below.drew (Below.refl _ _)).trans hb5; have HI2 := hid ((unhid HI).kept hb5'); have HF2 := hid ((unhid HF).kept' hb5'); have hO5 := (unhid HI2).lt; obtain ⟨-, -, -, rh, ro, rf⟩ := propBx_cells (unhid HI2)
          clear hb5 hb5'
          refine hK.out _ _ ⟨ro, rh⟩ ?_
          clear hSE hK K
          intro hSE
          (try simp only [Act.put, List.setIfInBounds_toArray, List.set_cons_zero, List.set_cons_succ])
          (refine WE_one (i := 10) rfl (by decide) (by kernel_rfl) ?_; intro K hK)
          go_simp
          refine hK.out _ _ ⟨(World.cell?_alloc_lt w5 _ _ hO5).trans ro, (World.cell?_alloc_lt w5 _ ⟨bh, 0, none⟩ (by dsimp only; omega)).trans rh⟩ ?_
          clear hSE hK K
          intro hSE
          (try simp only [Act.put, List.setIfInBounds_toArray, List.set_cons_zero, List.set_cons_succ])
          (refine WE_one (i := 11) rfl (by decide) (by kernel_rfl) ?_; intro K hK)
          refine step_append_lies _ (by rfl) _ _ _ (by rfl) (O + 1) 80 i0 _ 9 88 Tryz.underlying25 hi hz0 hz1 hz2 rfl (by omega) (.slice A6 o.length c6) o.length (signs o) (by rfl) ((unhid HI2).own.alloc (.cells #[.int .i64 sg.num, .int .i64 sg.kind, .int .i64 sg.val, .int .i64 sg.chain, .int .i64 sg.dir, .int .i64 sg.rank, .int .i64 sg.up, .int .i64 sg.down, .slice sg.cA sg.cov.length sg.cc] 80)) ⟨w5.heap.size, 0, none⟩ 1 1 [.int .i64 sg.num, .int .i64 sg.kind, .int .i64 sg.val, .int .i64 sg.chain, .int .i64 sg.dir, .int .i64 sg.rank, .int .i64 sg.up, .int .i64 sg.down, .slice sg.cA sg.cov.length sg.cc] (by rfl) (by rfl) (World.news_of_block (cs := #[.int .i64 sg.num, .int .i64 sg.kind, .int .i64 sg.val, .int .i64 sg.chain, .int .i64 sg.dir, .int .i64 sg.rank, .int .i64 sg.up, .int .i64 sg.down, .slice sg.cA sg.cov.length sg.cc]) (t := 80) (fr := (0, 0)) (heap_alloc_new w5 _)) (by simp [Value.oneCell']) (by omega) (by unfold maxLen; omega) (by omega) (by simp; omega) (w5.heap.size + 1) (by simp) ?_; intro g3 cap3 w7 hown hg hat hlt3; have hO7 : w7.cell? ⟨O, 0, none⟩ = some (.slice A6 o.length c6) := (hg.cell_far ⟨O, 0, none⟩ (by simp; omega) (fun e => by have := own_lt' (unhid HI2).own e.symm; dsimp only at this; omega)).trans ((World.cell?_alloc_lt w5 _ _ hO5).trans ro); have hF7 : w7.frozen? ⟨O, 0, none⟩ = false := (hg.frozen_far ⟨O, 0, none⟩ (by simp; omega) (fun e => by have := own_lt' (unhid HI2).own e.symm; dsimp only at this; omega)).trans ((World.frozen?_alloc_old w5 _ ⟨O, 0, none⟩ (by dsimp only; omega)).trans rf); have q0 : w7.cell? ⟨bh, 0, none⟩ = some (.int .i64 hour) := (hg.cell_far ⟨bh, 0, none⟩ (by simp; omega) (fun e => by have := own_lt' (unhid HI2).own e.symm; dsimp only at this; omega)).trans ((World.cell?_alloc_lt w5 _ ⟨bh, 0, none⟩ (by dsimp only; omega)).trans rh)
          refine hK.out _ _ ⟨hO7, q0⟩ ?_
          clear hSE hK K
          intro hSE
          (try simp only [Act.put, List.setIfInBounds_toArray, List.set_cons_zero, List.set_cons_succ])
          (refine WE_last rfl (by kernel_rfl) (by kernel_rfl) (by kernel_rfl) ?_; intro K hK; go_simp; refine hK.out _ _ (NoPanic.normal ?_); clear hK K)
          have HP := hid ((unhid HI2).setO hown (show (w5.alloc (.cells #[.int .i64 sg.num, .int .i64 sg.kind, .int .i64 sg.val, .int .i64 sg.chain, .int .i64 sg.dir, .int .i64 sg.rank, .int .i64 sg.up, .int .i64 sg.down, .slice sg.cA sg.cov.length sg.cc] 80)).grownBy w7 _ from hg))
          have HQ := hid (GpFr.push' (unhid HI2) (unhid HF2) (v2 := .slice (some ⟨g3, 0, none⟩) (o.length + 1) cap3) hg (fun g hg' => by
            have e : g = g3 := by simpa [Value.ownBlock] using hg'.symm
            subst e
            rcases hat with h | h
            · exact .inl h
            · exact .inr (by omega)))
          clear hown hg hat ro rf rh
          go_wp2_with fail
          go_roundw
          case rel =>
            refine ⟨k + 1, o ++ [sg], some ⟨g3, 0, none⟩, cap3, by omega, by go_num, by rw [unhid HNX], by rw [unhid HNX], ?_, ?_⟩
            · rw [show (o ++ [sg]).length = o.length + 1 by simp, show signs (o ++ [sg]) = signs o ++ sgC sg from by simp [signs]]
              exact unhid HP
            · rw [show (o ++ [sg]).length = o.length + 1 by simp]
              exact unhid HQ
          case measure => simp [intOf]; omega
      · rw [if_neg hjc] at hnw2
        have hdj := decide_eq_false hjc
        have HJC := hid hjc
        clear hjc
        rw [hdj]
        go_wp2_with fail
        refine ((unhid KM) _ hB3).mono ?_
        rintro e w4 ⟨rfl, hb4⟩
        clear l0 l1 e0 h0 o0
        have HI := hid ((unhid HI).kept hb4)
        have HF := hid ((unhid HF).kept' hb4)
        have c5' : w4.cell? ⟨b5, off5 + q, none⟩ = some (.int .i64 x) := (hb4.cell (p := ⟨b5, off5 + q, none⟩) hb5).trans c5
        clear c5 hb3 hB3 KD KC KM hb4 hb5 hIlt
        have c5 := c5'
        clear c5'
        obtain ⟨l0, l1, e0, h0, o0, f0⟩ := propBx_cells (unhid HI)
        have hIlt := (unhid HI).lt
        obtain ⟨bLO, bEO, bHO⟩ := unhid HLT
        by_cases hx : x = nw
        · have hx' : (x == nw) = true := by simpa using hx
          have HNX := hid ((unhid HSU).trans (ppStep_same (st := (o, nw0)) (unhid HNW).symm (unhid HGD) hx))
          subst hnw2
          have HX := hid hx
          clear hx
          go_wp2_with fail
          go_roundw
          case rel => exact ⟨k + 1, o, A6, c6, by omega, by go_num, by rw [unhid HNX], by rw [unhid HNX], unhid HI, unhid HF⟩
          case measure => simp [intOf]; omega
        · have hx' : (x == nw) = false := by simpa using hx
          have HNX := hid ((unhid HSU).trans (ppStep_push (st := (o, nw0)) (unhid HNW).symm (unhid HGD) hx))
          subst hnw2
          have HX := hid hx
          clear hx
          have hk1 : IntKind.i64.wrap ((o.length : Int) + 1) = (o.length : Int) + 1 := IntWalk.i64_in _ (by omega)
          have KP := hid (fun (W : World) => post_calls (o.length + 1) topic x ch dir hour W hh)
          dsimp only at HNX
          rw [unhid HCH] at HNX
          generalize hsg : postS (o.length + 1) topic x ch dir hour = sg at *
          unfold Sg.v at KP
          have HSG := hid (show sg.cov = [] ∧ sg.cA = none ∧ sg.cc = 0 from by rw [← hsg]; exact ⟨rfl, rfl, rfl⟩)
          clear hsg
          go_wp2_with fail
          refine wp_region_noPanic ?_
          refine wp_region_E (S := fun w' => w'.cell? ⟨O, 0, none⟩ = some (.slice A6 o.length c6) ∧ w'.cell? ⟨bh, 0, none⟩ = some (.int .i64 hour)) 12 13 rfl (by kernel_rfl) (by kernel_rfl) ⟨o0, h0⟩ ?_
          intro hSE
          (refine WE_take (i := 0) (v := ?_) rfl (by kernel_rfl) (by decide) (by kernel_rfl) (by kernel_rfl) (fun _ _ _ h => h) (by rfl) hSE ?_ ?_; rotate_left; (focus (intro w hSw; (try dsimp only at hSw); go_simp; (try with_reducible rfl))); simp only [Act.put, List.setIfInBounds_toArray, List.set_cons_zero, List.set_cons_succ])
          (refine WE_take (i := 1) (v := ?_) rfl (by kernel_rfl) (by decide) (by kernel_rfl) (by kernel_rfl) (fun _ _ _ h => h) (by rfl) hSE ?_ ?_; rotate_left; (focus (intro w hSw; (try dsimp only at hSw); go_simp; (try with_reducible rfl))); simp only [Act.put, List.setIfInBounds_toArray, List.set_cons_zero, List.set_cons_succ])
          (refine WE_take (i := 2) (v := ?_) rfl (by kernel_rfl) (by decide) (by kernel_rfl) (by kernel_rfl) (fun _ _ _ h => h) (by rfl) hSE ?_ ?_; rotate_left; (focus (intro w hSw; (try dsimp only at hSw); go_simp; (try with_reducible rfl))); simp only [Act.put, List.setIfInBounds_toArray, List.set_cons_zero, List.set_cons_succ])
          (refine WE_take (i := 3) (v := ?_) rfl (by kernel_rfl) (by decide) (by kernel_rfl) (by kernel_rfl) (fun _ _ _ h => h) (by rfl) hSE ?_ ?_; rotate_left; (focus (intro w hSw; (try dsimp only at hSw); go_simp; (try with_reducible rfl))); simp only [Act.put, List.setIfInBounds_toArray, List.set_cons_zero, List.set_cons_succ])
          (refine WE_take (i := 4) (v := ?_) rfl (by kernel_rfl) (by decide) (by kernel_rfl) (by kernel_rfl) (fun _ _ _ h => h) (by rfl) hSE ?_ ?_; rotate_left; (focus (intro w hSw; (try dsimp only at hSw); go_simp; (try with_reducible rfl))); simp only [Act.put, List.setIfInBounds_toArray, List.set_cons_zero, List.set_cons_succ])
          (refine WE_take (i := 5) (v := ?_) rfl (by kernel_rfl) (by decide) (by kernel_rfl) (by kernel_rfl) (fun _ _ _ h => h) (by rfl) hSE ?_ ?_; rotate_left; (focus (intro w hSw; (try dsimp only at hSw); go_simp; (try with_reducible rfl))); simp only [Act.put, List.setIfInBounds_toArray, List.set_cons_zero, List.set_cons_succ])
          (refine WE_take (i := 6) (v := ?_) rfl (by kernel_rfl) (by decide) (by kernel_rfl) (by kernel_rfl) (fun _ _ _ h => h) (by rfl) hSE ?_ ?_; rotate_left; (focus (intro w hSw; (try dsimp only at hSw); go_simp; (try with_reducible rfl))); simp only [Act.put, List.setIfInBounds_toArray, List.set_cons_zero, List.set_cons_succ])
          (refine WE_take (i := 7) (v := ?_) rfl (by kernel_rfl) (by decide) (by kernel_rfl) (by kernel_rfl) (fun _ _ _ h => h) (by rfl) hSE ?_ ?_; rotate_left; (focus (intro w hSw; (try dsimp only at hSw); go_simp; (try with_reducible rfl))); simp only [Act.put, List.setIfInBounds_toArray, List.set_cons_zero, List.set_cons_succ])
          (refine WE_take (i := 8) (v := ?_) rfl (by kernel_rfl) (by decide) (by kernel_rfl) (by kernel_rfl) (fun _ _ _ h => h) (by rfl) hSE ?_ ?_; rotate_left; (focus (intro w hSw; (try dsimp only at hSw); go_simp; (try with_reducible rfl))); simp only [Act.put, List.setIfInBounds_toArray, List.set_cons_zero, List.set_cons_succ])
          (refine WE_one (i := 9) rfl (by decide) (by kernel_rfl) ?_; intro K hK)
          go_simp
          go_at_call 63
          refine ((unhid KP) _).mono ?_; rintro e w5 ⟨rfl, hb5⟩; have hb5' : Below w4.heap.size w4 w5 := (Below.drew (Below.refl _ _)).trans hb5; have HI2 := hid ((unhid HI).kept hb5'); have HF2 := hid ((unhid HF).kept' hb5'); have hO5 := (unhid HI2).lt; obtain ⟨-, -, -, rh, ro, rf⟩ := propBx_cells (unhid HI2)
          clear hb5 hb5'
          refine hK.out _ _ ⟨ro, rh⟩ ?_
          clear hSE hK K
          intro hSE
          (try simp only [Act.put, List.setIfInBounds_toArray, List.set_cons_zero, List.set_cons_succ])
          (refine WE_one (i := 10) rfl (by decide) (by kernel_rfl) ?_; intro K hK)
          go_simp
          refine hK.out _ _ ⟨(World.cell?_alloc_lt w5 _ _ hO5).trans ro, (World.cell?_alloc_lt w5 _ ⟨bh, 0, none⟩ (by dsimp only; omega)).trans rh⟩ ?_
          clear hSE hK K
          intro hSE
          (try simp only [Act.put, List.setIfInBounds_toArray, List.set_cons_zero, List.set_cons_succ])
          (refine WE_one (i := 11) rfl (by decide) (by kernel_rfl) ?_; intro K hK)
          refine step_append_lies _ (by rfl) _ _ _ (by rfl) (O + 1) 80 i0 _ 9 88 Tryz.underlying25 hi hz0 hz1 hz2 rfl (by omega) (.slice A6 o.length c6) o.length (signs o) (by rfl) ((unhid HI2).own.alloc (.cells #[.int .i64 sg.num, .int .i64 sg.kind, .int .i64 sg.val, .int .i64 sg.chain, .int .i64 sg.dir, .int .i64 sg.rank, .int .i64 sg.up, .int .i64 sg.down, .slice sg.cA sg.cov.length sg.cc] 80)) ⟨w5.heap.size, 0, none⟩ 1 1 [.int .i64 sg.num, .int .i64 sg.kind, .int .i64 sg.val, .int .i64 sg.chain, .int .i64 sg.dir, .int .i64 sg.rank, .int .i64 sg.up, .int .i64 sg.down, .slice sg.cA sg.cov.length sg.cc] (by rfl) (by rfl) (World.news_of_block (cs := #[.int .i64 sg.num, .int .i64 sg.kind, .int .i64 sg.val, .int .i64 sg.chain, .int .i64 sg.dir, .int .i64 sg.rank, .int .i64 sg.up, .int .i64 sg.down, .slice sg.cA sg.cov.length sg.cc]) (t := 80) (fr := (0, 0)) (heap_alloc_new w5 _)) (by simp [Value.oneCell']) (by omega) (by unfold maxLen; omega) (by omega) (by simp; omega) (w5.heap.size + 1) (by simp) ?_; intro g3 cap3 w7 hown hg hat hlt3; have hO7 : w7.cell? ⟨O, 0, none⟩ = some (.slice A6 o.length c6) := (hg.cell_far ⟨O, 0, none⟩ (by simp; omega) (fun e => by have := own_lt' (unhid HI2).own e.symm; dsimp only at this; omega)).trans ((World.cell?_alloc_lt w5 _ _ hO5).trans ro); have hF7 : w7.frozen? ⟨O, 0, none⟩ = false := (hg.frozen_far ⟨O, 0, none⟩ (by simp; omega) (fun e => by have := own_lt' (unhid HI2).own e.symm; dsimp only at this; omega)).trans ((World.frozen?_alloc_old w5 _ ⟨O, 0, none⟩ (by dsimp only; omega)).trans rf); have q0 : w7.cell? ⟨bh, 0, none⟩ = some (.int .i64 hour) := (hg.cell_far ⟨bh, 0, none⟩ (by simp; omega) (fun e => by have := own_lt' (unhid HI2).own e.symm; dsimp only at this; omega)).trans ((World.cell?_alloc_lt w5 _ ⟨bh, 0, none⟩ (by dsimp only; omega)).trans rh)
          refine hK.out _ _ ⟨hO7, q0⟩ ?_
          clear hSE hK K
          intro hSE
          (try simp only [Act.put, List.setIfInBounds_toArray, List.set_cons_zero, List.set_cons_succ])
          (refine WE_last rfl (by kernel_rfl) (by kernel_rfl) (by kernel_rfl) ?_; intro K hK; go_simp; refine hK.out _ _ (NoPanic.normal ?_); clear hK K)
          have HP := hid ((unhid HI2).setO hown (show (w5.alloc (.cells #[.int .i64 sg.num, .int .i64 sg.kind, .int .i64 sg.val, .int .i64 sg.chain, .int .i64 sg.dir, .int .i64 sg.rank, .int .i64 sg.up, .int .i64 sg.down, .slice sg.cA sg.cov.length sg.cc] 80)).grownBy w7 _ from hg))
          have HQ := hid (GpFr.push' (unhid HI2) (unhid HF2) (v2 := .slice (some ⟨g3, 0, none⟩) (o.length + 1) cap3) hg (fun g hg' => by
            have e : g = g3 := by simpa [Value.ownBlock] using hg'.symm
            subst e
            rcases hat with h | h
            · exact .inl h
            · exact .inr (by omega)))
          clear hown hg hat ro rf rh
          go_wp2_with fail
          go_roundw
          case rel =>
            refine ⟨k + 1, o ++ [sg], some ⟨g3, 0, none⟩, cap3, by omega, by go_num, by rw [unhid HNX], by rw [unhid HNX], ?_, ?_⟩
            · rw [show (o ++ [sg]).length = o.length + 1 by simp, show signs (o ++ [sg]) = signs o ++ sgC sg from by simp [signs]]
              exact unhid HP
            · rw [show (o ++ [sg]).length = o.length + 1 by simp]
              exact unhid HQ
          case measure => simp [intOf]; omega
    · obtain rfl : k = n := by omega
      obtain ⟨l0, l1, e0, h0, o0, -⟩ := propBx_cells (unhid HI)
      have HO2 := hid ho
      clear ho
      go_wp2_with fail
      go_end0
      refine ⟨rfl, A6, c6, ?_⟩
      have h9 := unhid HI
      rw [unhid HO2, ← unhid HMS] at h9
      exact h9
end

section
theorem box_blocks3 (w : World) (c1 c2 c3 : Array Value) (t1 t2 t3 : TypeId) :
    (((w.alloc (.cells c1 t1)).alloc (.cells c2 t2)).alloc (.cells c3 t3)).heap[w.heap.size]? = some (.cells c1 t1 (0, 0)) ∧
    (((w.alloc (.cells c1 t1)).alloc (.cells c2 t2)).alloc (.cells c3 t3)).heap[w.heap.size + 1]? = some (.cells c2 t2 (0, 0)) ∧
    (((w.alloc (.cells c1 t1)).alloc (.cells c2 t2)).alloc (.cells c3 t3)).heap[w.heap.size + 2]? = some (.cells c3 t3 (0, 0)) ∧
    Below w.heap.size w (((w.alloc (.cells c1 t1)).alloc (.cells c2 t2)).alloc (.cells c3 t3)) ∧
    (((w.alloc (.cells c1 t1)).alloc (.cells c2 t2)).alloc (.cells c3 t3)).heap.size = w.heap.size + 3 := by
  have s1 : (w.alloc (.cells c1 t1)).heap.size = w.heap.size + 1 := by simp
  have s2 : ((w.alloc (.cells c1 t1)).alloc (.cells c2 t2)).heap.size = w.heap.size + 2 := by simp
  refine ⟨?_, ?_, ?_, below_alloc' (below_alloc' (below_alloc w _) _) _, by simp⟩
  · rw [Below.heap_alloc _ _ _ (by omega), Below.heap_alloc _ _ _ (by omega)]; exact heap_alloc_new w _
  · rw [Below.heap_alloc _ _ _ (by omega), ← s1]; exact heap_alloc_new _ _
  · rw [← s2]; exact heap_alloc_new _ _

theorem allE_zero' {len : Int} {js : List Int} {l : List Sg} {ed : List Ed} {hour : Int} (h : allE len js l ed hour = 0) : lineB len js = true ∧ sgsB len js l = true ∧ edsB len js ed = true ∧ 0 ≤ hour ∧ hour ≤ 10000000 := by
  unfold allE at h
  split at h
  · omega
  · rename_i h1
    split at h
    · omega
    · rename_i h2
      split at h
      · omega
      · rename_i h3
        split at h
        · rename_i h4
          exact ⟨by simpa using h1, by simpa using h2, by simpa using h3, h4.1, h4.2⟩
        · omega
theorem SgsOk.nil (w : World) : SgsOk w none [] := ⟨by simp, Rd.nil _ _, fun s h => by cases h⟩

set_option maxHeartbeats 4000000 in
set_option maxRecDepth 100000 in
theorem propose_calls (len : Int) (A : Option Addr) (js : List Int) (c : Nat) (A3 : Option Addr) (ed : List Ed) (c3 : Nat) (hour : Int) (w : World) (hl : LnOk w A js) (he : EdsOk w A3 ed) :
    Calls Tryz.prog 28 #[.agg #[.int .i64 len, .slice A js.length c], .slice A3 ed.length c3, .int .i64 hour] w (PropPost len js ed hour w) := by
  have HL := hid hl
  have HE := hid he
  clear hl he
  go_enter Tryz.func28, Tryz.ntmps28
  go_wp2_with fail
  obtain ⟨d0, d1, d2, hbw, hsz⟩ := box_blocks3 w #[.int .i64 len, .slice A js.length c] #[.slice A3 ed.length c3] #[.int .i64 hour] 24 26 3
  refine (all_calls len A js c none [] 0 A3 ed c3 hour _ ((unhid HL).below hbw) (SgsOk.nil _) ((unhid HE).below hbw)).mono ?_
  rintro e w1 ⟨rfl, hb1⟩
  have g0 := (hb1.block w.heap.size (by omega)).trans d0
  have g1 := (hb1.block (w.heap.size + 1) (by omega)).trans d1
  have g2 := (hb1.block (w.heap.size + 2) (by omega)).trans d2
  have hbw1 : Below w.heap.size w w1 := hbw.trans (hb1.mono hbw.size)
  have hsz1 : w.heap.size + 3 ≤ w1.heap.size := by have := hb1.size; omega
  clear d0 d1 d2 hb1 hbw hsz
  have hpe : propE len js ed hour = if allE len js [] ed hour ≠ 0 then allE len js [] ed hour else if 100 < (ppAll len.toNat js ed hour 4).length then 2 else 0 := rfl
  generalize hal : allE len js [] ed hour = al at *
  by_cases h0 : al = 0
  · subst h0
    have hv := allE_zero' hal
    clear hal
    obtain ⟨n, rfl⟩ := Int.eq_ofNat_of_zero_le (show 0 ≤ len by have := (lineB_len hv.1).1; omega)
    have hn := (lineB_len hv.1).2
    have HV := hid hv
    simp only [ne_eq, not_true, if_false] at hpe
    rw [show ((n : Int)).toNat = n from rfl] at hpe
    have HPE := hid hpe
    clear hv hpe
    have HG := hid (And.intro g0 (And.intro g1 g2))
    clear g0 g1 g2
    go_wp2_with fail
    have hI0 : BoxI (w1.alloc (.cells #[.slice none 0 0] 25)) w (propBx n A js.length c A3 ed.length c3 hour w.heap.size (w.heap.size + 1) (w.heap.size + 2)) w1.heap.size 25 80 9 (.slice none (ppAll n js ed hour 0).length 0) (ppAll n js ed hour 0).length (signs (ppAll n js ed hour 0)) := by
      obtain ⟨g0, g1, g2⟩ := unhid HG
      refine ⟨fun q hq => ?_, heap_alloc_new _ _, World.ownsRow_nil _ _ _ _, below_alloc' hbw1 _, by omega⟩
      simp [propBx] at hq
      rcases hq with rfl | rfl | rfl
      · exact ⟨by dsimp only; omega, by rw [Below.heap_alloc _ _ _ (by dsimp only; omega)]; exact g0⟩
      · exact ⟨by dsimp only; omega, by rw [Below.heap_alloc _ _ _ (by dsimp only; omega)]; exact g1⟩
      · exact ⟨by dsimp only; omega, by rw [Below.heap_alloc _ _ _ (by dsimp only; omega)]; exact g2⟩
    refine (each_calls 60 _ (fun i w' => ∃ (A' : Option Addr) (c' : Nat), BoxI w' w (propBx n A js.length c A3 ed.length c3 hour w.heap.size (w.heap.size + 1) (w.heap.size + 2)) w1.heap.size 25 80 9 (.slice A' (ppAll n js ed hour i).length c') (ppAll n js ed hour i).length (signs (ppAll n js ed hour i))) (fun _ _ => by rfl) ?_ _ ⟨none, 0, hI0⟩).mono ?_
    · rintro i wi hi ⟨A5, c5, st⟩
      have hlen := ppAll_len n js ed hour i
      have hlen2 : i * n ≤ 4 * 100000 := Nat.mul_le_mul (by omega) (by omega)
      refine (prop_calls n A js c A3 ed c3 hour (topI i) (dirI i) _ _ _ _ w wi _ A5 c5 (unhid HL) (unhid HE) (unhid HV).1 (unhid HV).2.2.1 (unhid HV).2.2.2 st (by omega)).mono ?_
      rintro e w' ⟨rfl, A6, c6, h6⟩
      exact ⟨rfl, A6, c6, h6⟩
    · rintro e w2 ⟨rfl, A5, c5, hI⟩
      have o2 := cell_of_one hI.o
      obtain ⟨A7, c7, hvv, hrd, -⟩ := own_slice hI.own
      injection hvv with hv1 hv2 hv3
      subst hv1 hv3
      have HRD := hid hrd
      have HBL := hid hI.below
      have hlen := ppAll_len n js ed hour 4
      clear hI hrd hI0
      by_cases hbig : 100 < (ppAll n js ed hour 4).length
      · have HPE := hid ((unhid HPE).trans (if_pos hbig))
        have := decide_eq_true (show (100 : Int) < ((ppAll n js ed hour 4).length : Int) by omega)
        go_wp2_with fail
        go_ret2
        exact ⟨none, 0, [], by rw [unhid HPE]; rfl, fun h => absurd ((unhid HPE).symm.trans h) (by omega), fun _ => rfl, Rd.nil _ _, by simp, (by intro s h; cases h), unhid HBL⟩
      · have HPE := hid ((unhid HPE).trans (if_neg hbig))
        have := decide_eq_false (show ¬ ((100 : Int) < ((ppAll n js ed hour 4).length : Int)) by omega)
        go_wp2_with fail
        go_ret2
        exact ⟨A5, c5, ppAll n js ed hour 4, by rw [unhid HPE]; rfl, fun _ => rfl, fun h => absurd (unhid HPE) h, unhid HRD, by omega, fun s h => (ppAll_cov n js ed hour 4 s h).1, unhid HBL⟩
  · have h0' : (al != 0) = true := by simpa using h0
    rw [if_pos h0] at hpe
    have HPE := hid hpe
    have H0 := hid h0
    clear hal h0 g0 g1 g2 hpe
    go_wp2_with fail
    go_ret2
    exact ⟨none, 0, [], by rw [unhid HPE]; rfl, fun h => absurd ((unhid HPE).symm.trans h) (unhid H0), fun _ => rfl, Rd.nil _ _, by simp, (by intro s h; cases h), hbw1⟩
end

end Go.Proofs.YtmpngoejnmlmbaaGreat
