/-
  What the reading of a face comes to: lengths, lists of items, the two structs that Parse fills. A face read from its text: package face. A face in a block of its own, as the laws keep their parameters; how a law goes on behind a call. Types, steps of a price list and counts, as they lie in slices and blocks.
-/
import Derived.Test.YtfklckjfbnaoeaaGreatDoorFcPw
import Derived.Test.YtfklckjfbnaoeaaGreatDoorFcVal
import Derived.Test.YtfklckjfbnaoeaaGreatDoorWaP
import Derived.Test.YtfklckjfbnaoeaaGreatDoorWaK
set_option linter.unusedSimpArgs false
set_option linter.unusedVariables false
namespace Go.Proofs.YtfklckjfbnaoeaaGreatDoor

section
open Go.RowKit

theorem fmtF_len {f : Fc} (h : fcB f = true) : (fmtF f).length ≤ 1700 := by
  obtain ⟨s0, s1⟩ := size_bounds h
  have hl16 : f.items.length ≤ 16 := by simp only [fcB, Bool.and_eq_true, decide_eq_true_eq] at h; exact h.1.1.2
  have hgt : 0 ≤ f.height ∧ f.height ≤ 200 := by
    simp only [fcB, Bool.and_eq_true, decide_eq_true_eq] at h
    have := h.1.2
    split at this <;> simp at this <;> omega
  have zz := itoa_len (n := f.size) (by omega) s1
  have zg := itoa_len hgt.1 hgt.2
  have zs := shapeW_len f.shape.toNat
  have hh : (Lib.join (headF f) [32]).length ≤ 18 := by rw [hdTxt_eq]; exact hdTxt_len zs zz zg
  have hj := join_len (sep := [59, 32]) (M := 100) (f.items.map fmtIt) (by
    intro w hw
    obtain ⟨x, hx, rfl⟩ := List.mem_map.1 hw
    exact fmtIt_len (items_valid h x hx))
  simp only [List.length_map, List.length_cons, List.length_nil] at hj
  unfold fmtF
  split
  · omega
  · simp only [List.length_append, List.length_cons, List.length_nil]; omega
theorem parse_long {s : List UInt8} (h : 5000 < s.length) : parseP s = none := by
  cases hp : parseP s with
  | none => rfl
  | some f =>
    obtain ⟨h1, h2⟩ := parseP_some.1 hp
    have := fmtF_len h1
    rw [h2] at this
    omega
theorem readAll_snoc : ∀ {l : List (List UInt8)} {xs : List It} {s : List UInt8} {x : It}, readAll l = some xs → readIt s = some x → readAll (l ++ [s]) = some (xs ++ [x])
  | [], xs, s, x, h1, h2 => by
    simp only [readAll] at h1
    injection h1 with h1
    subst h1
    simp [readAll, h2]
  | y :: l, xs, s, x, h1, h2 => by
    simp only [readAll] at h1
    cases hy : readIt y with
    | none => rw [hy] at h1; cases h1
    | some z =>
      rw [hy] at h1
      cases hl : readAll l with
      | none => rw [hl] at h1; cases h1
      | some zs =>
        rw [hl] at h1
        simp at h1
        subst h1
        simp [readAll, hy, readAll_snoc hl h2]
theorem readAll_no : ∀ {l : List (List UInt8)} {s : List UInt8}, s ∈ l → readIt s = none → readAll l = none
  | [], s, h, _ => by cases h
  | y :: l, s, h, h2 => by
    simp only [readAll]
    rcases List.mem_cons.1 h with rfl | h
    · rw [h2]
    · rw [readAll_no h h2]
      cases readIt y <;> rfl
theorem readAll_len : ∀ {l : List (List UInt8)} {xs : List It}, readAll l = some xs → xs.length = l.length
  | [], xs, h => by simp only [readAll] at h; injection h with h; subst h; rfl
  | y :: l, xs, h => by
    simp only [readAll] at h
    cases hy : readIt y with
    | none => rw [hy] at h; cases h
    | some z =>
      rw [hy] at h
      cases hl : readAll l with
      | none => rw [hl] at h; cases h
      | some zs =>
        rw [hl] at h
        simp at h
        subst h
        simp [readAll_len hl]

/-- A face as an array of cells. -/
def fi (a b c : Int) (v : Value) : Array Value := #[.int .i64 a, .int .i64 b, .int .i64 c, v]
theorem fi_one (a b c : Int) (A : Option Addr) (n m : Nat) : (fi a b c (.slice A n m)).all (·.oneCell') = true := by simp [fi, Value.oneCell']
theorem fi_size (a b c : Int) (v : Value) : (Tryz.prog.info? 214).map (·.size) = some (fi a b c v).size := by
  show _ = some 4
  kernel_rfl

/-- As XI, for faces. -/
structure FI (w : World) (B : Nat) (wr : World) (vs : Array Value) : Prop where
  hB : B = w.heap.size
  res : wr.heap[B]? = some (.cells (fi 0 0 0 (.slice none 0 0)) 214 (0, 0))
  x : wr.heap[B + 1]? = some (.cells vs 214 (0, 0))
  below : Below w.heap.size w wr

theorem FI.size {w wr : World} {B : Nat} {vs : Array Value} (h : FI w B wr vs) : B + 1 < wr.heap.size := (Array.getElem?_eq_some_iff.1 h.x).1
theorem FI.after {w wr wr' : World} {B : Nat} {vs : Array Value} (h : FI w B wr vs) (hb : Below wr.heap.size wr wr') : FI w B wr' vs :=
  ⟨h.hB, (hb.block B (Nat.lt_of_succ_lt h.size)).trans h.res, (hb.block (B + 1) h.size).trans h.x, h.below.trans (hb.mono h.below.size)⟩
theorem FI.set {w wr : World} {B : Nat} {vs : Array Value} (h : FI w B wr vs) (i : Nat) (v : Value) : FI w B (wr.setCell ⟨B + 1, i, none⟩ v) (vs.setIfInBounds i v) :=
  ⟨h.hB, (heap_setCell_other _ _ _ _ (by simp)).trans h.res, heap_setCell_same _ _ _ _ _ _ h.x, Below.setCell h.below (by rw [h.hB]; simp) v⟩
theorem FI.cell {w wr : World} {B : Nat} {vs : Array Value} (h : FI w B wr vs) (i : Nat) : wr.cell? ⟨B + 1, i, none⟩ = vs[i]? := cell_of_row _ _ _ _ _ _ h.x
theorem FI.cellB {w wr : World} {B : Nat} {vs : Array Value} (h : FI w B wr vs) (i : Nat) : wr.cell? ⟨B, i, none⟩ = (fi 0 0 0 (.slice none 0 0))[i]? := cell_of_row _ _ _ _ _ _ h.res
theorem FI.frozen {w wr : World} {B : Nat} {vs : Array Value} (h : FI w B wr vs) (i : Nat) : wr.frozen? ⟨B + 1, i, none⟩ = false := frozen_of_row _ _ _ _ _ h.x

theorem FI.done {w wr : World} {B : Nat} {vs : Array Value} (h : FI w B wr vs) (us : Array Value) (i : Nat) : (wr.setRow B us).cell? ⟨B, i, none⟩ = us[i]? := cell_of_row _ _ _ _ _ _ (setRow_heap _ _ _ _ _ _ h.res)
theorem FI.doneB {w wr : World} {B : Nat} {vs : Array Value} (h : FI w B wr vs) (us : Array Value) : Below w.heap.size w (wr.setRow B us) := below_setRow h.below (by rw [h.hB]; exact Nat.le_refl _) us
theorem FI.doneH {w wr : World} {B : Nat} {vs : Array Value} (h : FI w B wr vs) (us : Array Value) : (wr.setRow B us).heap[B]? = some (.cells us 214 (0, 0)) := setRow_heap _ _ _ _ _ _ h.res
theorem fi_start (w : World) : FI w w.heap.size ((w.alloc (.cells (fi 0 0 0 (.slice none 0 0)) 214)).alloc (.cells (fi 0 0 0 (.slice none 0 0)) 214)) (fi 0 0 0 (.slice none 0 0)) := by
  refine ⟨rfl, ?_, ?_, below_alloc' (below_alloc _ _) _⟩
  · exact ((below_alloc _ _).block _ (by simp)).trans (heap_alloc_new _ _)
  · have h := heap_alloc_new (w.alloc (.cells (fi 0 0 0 (.slice none 0 0)) 214)) (.cells (fi 0 0 0 (.slice none 0 0)) 214)
    simp only [World.size_alloc] at h
    exact h

theorem FI.grown {w wr wr' : World} {B : Nat} {vs : Array Value} {row : Option Nat} (h : FI w B wr vs) (hg : wr.grownBy wr' row) (hr : ∀ k, row = some k → B + 1 < k) : FI w B wr' vs := by
  have hne : ∀ i, i ≤ B + 1 → some i ≠ row := fun i hi e => by have := hr i e.symm; omega
  have hs := h.size
  refine ⟨h.hB, (hg.block B (by omega) (hne B (by omega))).trans h.res, (hg.block (B + 1) hs (hne _ (Nat.le_refl _))).trans h.x, Below.grown h.below hg h.below.size (fun k hk => ?_)⟩
  have := hr k hk
  have := h.hB
  omega
theorem own_setCell {w : World} {base e size n : Nat} {v : Value} {xs : List Value} (h : w.ownsRow base e size v n xs) {a : Addr} (ha : a.block < base) (u : Value) : (w.setCell a u).ownsRow base e size v n xs := by
  have hg : w.grownBy (w.setCell a u) (some a.block) := ⟨rfl, rfl, rfl, by simp, fun k _ hne => heap_setCell_other _ _ _ _ (fun e => hne (by rw [e]))⟩
  exact h.kept hg (Or.inr (own_ne h (Or.inl ha)))
theorem itsOk_setRow {w : World} {A : Option Addr} {l : List It} {B : Nat} (h : ItsOk w A l) (ha : ∀ a, A = some a → B + 1 < a.block) (us : Array Value) : ItsOk (w.setRow B us) A l := by
  refine ⟨h.n, fun hne => ?_, h.txt⟩
  obtain ⟨b, off, rfl, hb, hc⟩ := h.rd hne
  have hbB := ha _ rfl
  dsimp only at hbB
  refine ⟨b, off, rfl, by simpa [World.setRow] using hb, fun j u hu => ?_⟩
  rw [World.cell?_of_block (w := w) (setRow_other w B b us (by omega))]
  exact hc j u hu
theorem readR_cases {s : List UInt8} {w w' : World} {e : Ending} (h : readR s w e w') : Below w.heap.size w w' ∧
    ((readIt s = none ∧ ∃ (k c l o a b : Int) (t : List UInt8), e = .returned (.tuple #[.agg #[.int .i64 k, .int .i64 c, .int .i64 l, .int .i64 o, .int .i64 a, .int .i64 b, .string (SB t)], .bool false])) ∨
     ∃ x, readIt s = some x ∧ e = .returned (.tuple #[.agg #[.int .i64 x.kind, .int .i64 x.colour, .int .i64 x.left, .int .i64 x.low, .int .i64 x.a, .int .i64 x.b, .string (SB x.text)], .bool true])) := by
  obtain ⟨hb, h⟩ := h
  refine ⟨hb, ?_⟩
  cases hr : readIt s with
  | none => rw [hr] at h; exact Or.inl ⟨rfl, h⟩
  | some x => rw [hr] at h; exact Or.inr ⟨x, rfl, h⟩
theorem tailR_text {k c : Int} {t : List UInt8} {l o : Int} {m : Nat} {y z : List UInt8} {x : It} (h : tailR k c t l o m y z = some x) : x.text = t := by
  unfold tailR at h
  split at h
  · cases h
  · injection h with h
    subst h
    rfl
theorem readWs_text {t : List UInt8} {ws : List (List UInt8)} {x : It} (h : readWs t ws = some x) : x.text = t := by
  unfold readWs at h
  split at h
  · cases h
  · rw [readNs_eq] at h
    split at h <;> exact tailR_text h
theorem readIt_text {s : List UInt8} {x : It} (h : readIt s = some x) : x.text.length ≤ s.length := by
  unfold readIt at h
  split at h
  · dsimp only at h
    split at h
    · rw [readWs_text h]
      have h1 := cut_len s [32, 34]
      have h2 := cut_len (Lib.cut s [32, 34]).2.1 [34]
      omega
    · cases h
  · rw [readWs_text h]; simp
theorem par_none {s : List UInt8} (h : readF s = none) : parseP s = none := by unfold parseP; rw [h]
theorem par_some {s : List UInt8} {f : Fc} (h : readF s = some f) : parseP s = if (fcB f && decide (fmtF f = s)) = true then some f else none := by unfold parseP; rw [h]
theorem info_item : (Tryz.prog.info? 320).map (fun i => (i.zero, i.size, i.bytes)) = some (some (.agg #[.int .i64 0, .int .i64 0, .int .i64 0, .int .i64 0, .int .i64 0, .int .i64 0, .string ByteArray.empty]), 7, 64) := by kernel_rfl

/-- What Parse answers. -/
def parR (s : List UInt8) (w : World) (e : Ending) (w' : World) : Prop :=
  Below w.heap.size w w' ∧ match parseP s with
    | none => e = .returned (.tuple #[.agg (fi 0 0 0 (.slice none 0 0)), .int .i64 4])
    | some f => ∃ (A : Option Addr) (c : Nat), e = .returned (.tuple #[.agg (fi f.shape f.size f.height (.slice A f.items.length c)), .int .i64 0]) ∧ ItsOk w' A f.items
theorem parR_no {s : List UInt8} {w w' : World} (h : parseP s = none) (hb : Below w.heap.size w w') : parR s w (.returned (.tuple #[.agg (fi 0 0 0 (.slice none 0 0)), .int .i64 4])) w' := by
  refine ⟨hb, ?_⟩
  rw [h]
theorem parR_yes {s : List UInt8} {w w' : World} {f : Fc} {A : Option Addr} {c : Nat} (h : parseP s = some f) (hb : Below w.heap.size w w') (hi : ItsOk w' A f.items) : parR s w (.returned (.tuple #[.agg (fi f.shape f.size f.height (.slice A f.items.length c)), .int .i64 0])) w' := by
  refine ⟨hb, ?_⟩
  rw [h]
  exact ⟨A, c, rfl, hi⟩
end

section
open Go.RowKit

set_option maxHeartbeats 4000000 in
set_option maxRecDepth 100000 in
theorem parse_calls (s : List UInt8) (w : World) (hg : Gl w) :
    Calls Tryz.prog 171 #[.string (SB s)] w (parR s w) := by
  have zsb : ∀ l : List UInt8, (SB l).size = l.length := fun _ => rfl
  have HG := hid hg
  clear hg
  by_cases hs : 5000 < s.length
  · have HP := hid (parse_long hs)
    have hd0 : (5000 : Int) < (s.length : Int) := by omega
    clear hs
    have hz : (w.alloc (.cells (fi 0 0 0 (.slice none 0 0)) 214)).heap[w.heap.size]? = some (.cells (fi 0 0 0 (.slice none 0 0)) 214 (0, 0)) := heap_alloc_new _ _
    have HZ := hid hz
    clear hz
    go_enter Tryz.func171, Tryz.ntmps171
    go_wp2_with (refine wpList_store_row rfl 214 (.tmp 2) (.tmp 16) rfl w.heap.size (fi 0 0 0 (.slice none 0 0)) rfl rfl 214 _ (unhid HZ) (fi_size _ _ _ _) rfl (fi_one _ _ _ _ _ _) ?_)
    (try simp only [Exit.inBlock, Exit.then])
    refine bodyPost_ret_by (v := .tuple #[.agg (fi 0 0 0 (.slice none 0 0)), .int .i64 4]) (results_cell_row_tmp Tryz.results171 _ _ w.heap.size 214 (fi 0 0 0 (.slice none 0 0)) (0, 0) _ _ rfl rfl (setRow_heap _ _ _ _ _ _ (unhid HZ)) Tryz.underlying214 rfl (fi_size _ _ _ _)) rfl ?_
    exact parR_no (unhid HP) (below_setRow (below_alloc _ _) (Nat.le_refl _) _)
  have hs5 : s.length ≤ 5000 := by omega
  have hd0 : ¬ (5000 : Int) < (s.length : Int) := by omega
  clear hs
  have HC := hid (fun W (h : Gl W) => cut_lib s [58, 32] W h (by omega))
  have HRF := hid (show readF s = (if (Lib.cut s [58, 32]).2.2 then (readAll (Lib.split (Lib.cut s [58, 32]).2.1 [59, 32])).map (fun l => (⟨idxW shapeW ((Lib.split (Lib.cut s [58, 32]).1 [32]).getD 0 []), if 1 < (Lib.split (Lib.cut s [58, 32]).1 [32]).length then numP ((Lib.split (Lib.cut s [58, 32]).1 [32]).getD 1 []) else 0, if 2 < (Lib.split (Lib.cut s [58, 32]).1 [32]).length then numP ((Lib.split (Lib.cut s [58, 32]).1 [32]).getD 2 []) else 0, l⟩ : Fc)) else some ⟨idxW shapeW ((Lib.split (Lib.cut s [58, 32]).1 [32]).getD 0 []), if 1 < (Lib.split (Lib.cut s [58, 32]).1 [32]).length then numP ((Lib.split (Lib.cut s [58, 32]).1 [32]).getD 1 []) else 0, if 2 < (Lib.split (Lib.cut s [58, 32]).1 [32]).length then numP ((Lib.split (Lib.cut s [58, 32]).1 [32]).getD 2 []) else 0, []⟩) from rfl)
  have hl1 := cut_len s [58, 32]
  go_enter Tryz.func171, Tryz.ntmps171
  go_wp2_with fail
  have hX : FI w w.heap.size ((w.alloc (.cells #[.int .i64 0, .int .i64 0, .int .i64 0, .slice none 0 0] 214)).alloc (.cells #[.int .i64 0, .int .i64 0, .int .i64 0, .slice none 0 0] 214)) (fi 0 0 0 (.slice none 0 0)) := fi_start w
  generalize (w.alloc (.cells #[.int .i64 0, .int .i64 0, .int .i64 0, .slice none 0 0] 214)).alloc (.cells #[.int .i64 0, .int .i64 0, .int .i64 0, .slice none 0 0] 214) = W at hX ⊢
  generalize hBw : w.heap.size = B at hX ⊢
  clear hBw
  have HX := hid hX
  have hB0 := hX.size
  clear hX
  refine ((unhid HC) W ((unhid HG).below (unhid HX).below)).mono ?_
  generalize Lib.cut s [58, 32] = p at *
  obtain ⟨p1, p2, p3⟩ := p
  dsimp only at hl1 HRF ⊢
  rintro e w1 ⟨rfl, n1, rfl⟩
  have hX1 := (unhid HX).after (below_drewN' (Below.refl _ _) n1)
  have hB1 : B + 1 < (W.drewN n1).heap.size := hB0
  generalize W.drewN n1 = W1 at *
  have HX1 := hid hX1
  have HGC := hid ((unhid HG).below hX1.below)
  clear hX1 HX HC hB0
  obtain ⟨hs1, hs2⟩ := split_len p1 [32]
  have hwd := fun x (h : x ∈ Lib.split p1 [32]) => split_word h
  have HSP := hid (split_lib p1 [32] W1 (unhid HGC) (by omega) (by decide))
  generalize Lib.split p1 [32] = ws at *
  go_wp2_with fail
  refine (unhid HSP).mono ?_
  rintro e w3 ⟨rfl, hw3⟩
  have hX3 : FI w B w3 (fi 0 0 0 (.slice none 0 0)) := by rw [hw3]; exact (unhid HX1).after (below_alloc _ _)
  have HR3 := hid (show w3.heap[W1.heap.size]? = some (.cells (strC ws).toArray 9 (0, 0)) by rw [hw3]; exact heap_alloc_new _ _)
  have hg3 : W1.heap.size < w3.heap.size := by rw [hw3]; simp
  clear hw3 HSP
  generalize W1.heap.size = g at *
  have HX3 := hid hX3
  clear hX3 HX1 HGC
  have hwr : ∀ j, (ws.getD j []).length ≤ 5000 := fun j => by
    rw [List.getD_eq_getElem?_getD]
    cases he : ws[j]? with
    | none => simp
    | some x => exact Nat.le_trans (hwd x (List.mem_of_getElem? he)) (by omega)
  have hrow : ∀ j, j < ws.length → (strC ws).toArray[j]? = some (.string (SB (ws.getD j []))) := fun j hj => by
    simp [strC, List.getElem?_eq_getElem hj]
  have l1 := hwr 1
  have l2 := hwr 2
  have r0 := hrow 0 hs1
  have r1 : 1 < ws.length → _ := fun h => hrow 1 h
  have r2 : 2 < ws.length → _ := fun h => hrow 2 h
  clear hwr hrow hwd
  generalize ws.getD 0 [] = y0 at *
  generalize ws.getD 1 [] = y1 at *
  generalize ws.getD 2 [] = y2 at *
  have hn5 : ws.length ≤ 5002 := by omega
  generalize (strC ws).toArray = row at *
  generalize ws.length = n at *
  clear hs2
  go_wp2_with fail
  have HR5 := HR3
  have hg5 := hg3
  have HX5 := HX3
  have hd13 : 0 < n := by omega
  have b1 : w3.cell? ⟨g, 0, none⟩ = some (.string (SB y0)) := (cell_of_row _ _ _ _ _ _ (unhid HR5)).trans r0
  refine wp_region_noPanic ?_
  refine wp_region_E (S := fun w' => w'.cell? ⟨g, 0, none⟩ = some (.string (SB y0))) 6 7 rfl (by kernel_rfl) (by kernel_rfl) b1 ?_
  intro hSE
  (refine WE_take (i := 1) (v := ?_) rfl (by kernel_rfl) (by decide) (by kernel_rfl) (by kernel_rfl) (fun _ _ _ h => h) (by rfl) hSE ?_ ?_; rotate_left; (focus (intro w hSw; (try dsimp only at hSw); go_simp; (try with_reducible rfl))); simp only [Act.put, List.setIfInBounds_toArray, List.set_cons_zero, List.set_cons_succ])
  (refine WE_take (i := 2) (v := ?_) rfl (by kernel_rfl) (by decide) (by kernel_rfl) (by kernel_rfl) (fun _ _ _ h => h) (by rfl) hSE ?_ ?_; rotate_left; (focus (intro w hSw; (try dsimp only at hSw); go_simp; (try with_reducible rfl))); simp only [Act.put, List.setIfInBounds_toArray, List.set_cons_zero, List.set_cons_succ])
  (refine WE_take (i := 3) (v := ?_) rfl (by kernel_rfl) (by decide) (by kernel_rfl) (by kernel_rfl) (fun _ _ _ h => h) (by rfl) hSE ?_ ?_; rotate_left; (focus (intro w hSw; (try dsimp only at hSw); go_simp; (try with_reducible rfl))); simp only [Act.put, List.setIfInBounds_toArray, List.set_cons_zero, List.set_cons_succ])
  (refine WE_one (i := 0) rfl (by decide) (by kernel_rfl) ?_; intro K hK)
  go_simp
  go_at_call 223
  refine (shapeNames_calls _).mono ?_
  rintro e w6 ⟨rfl, hw6⟩
  have hb6 : Below w3.heap.size w3 w6 := by rw [hw6]; exact below_alloc' (Below.drew (Below.refl _ _)) _
  have hrd6 : Rd w6 (some ⟨w3.heap.size, 0, none⟩) (strC shapeW) := by rw [hw6]; exact rdNew0 w3.drew _ _
  clear hw6
  have b16 := (hb6.cell (p := ⟨g, 0, none⟩) hg5).trans b1
  refine hK.out _ _ b16 ?_
  clear hSE hK K
  intro hSE
  (try simp only [Act.put, List.setIfInBounds_toArray, List.set_cons_zero, List.set_cons_succ])
  (refine WE_one (i := 4) rfl (by decide) (by kernel_rfl) ?_; intro K hK)
  go_simp
  go_at_call 222
  refine (index_lib shapeW y0 _ 7 w6 hrd6 (by decide) (by decide)).mono ?_
  rintro e w7 ⟨rfl, rfl⟩
  refine hK.out _ _ b16 ?_
  clear hSE hK K
  intro hSE
  (try simp only [Act.put, List.setIfInBounds_toArray, List.set_cons_zero, List.set_cons_succ])
  have HX6 := hid ((unhid HX5).after hb6)
  have HR6 := hid ((hb6.block g hg5).trans (unhid HR5))
  have hg6 : g < w6.heap.size := Nat.lt_of_lt_of_le hg5 hb6.size
  clear hb6 hrd6 b1 b16 HX5 HR5 hg5 HX3 HR3 hg3 hd13
  generalize idxW shapeW y0 = sh at *
  have c0 : w6.cell? ⟨B + 1, 0, none⟩ = some (.int .i64 0) := (unhid HX6).cell 0
  have f0 := (unhid HX6).frozen 0
  (refine WE_take (i := 5) (v := ?_) rfl (by kernel_rfl) (by decide) (by kernel_rfl) (by kernel_rfl) (fun _ _ _ h => h) (by rfl) hSE ?_ ?_; rotate_left; (focus (intro w hSw; (try dsimp only at hSw); go_simp; (try with_reducible rfl))); simp only [Act.put, List.setIfInBounds_toArray, List.set_cons_zero, List.set_cons_succ])
  (refine WE_last rfl (by kernel_rfl) (by kernel_rfl) (by kernel_rfl) ?_; intro K hK; go_simp; refine hK.out _ _ (NoPanic.normal ?_); clear hK K)
  have hX7 : FI w B (w6.setCell ⟨B + 1, 0, none⟩ (.int .i64 sh)) (fi sh 0 0 (.slice none 0 0)) := (unhid HX6).set 0 (.int .i64 sh)
  have HR7 := hid ((heap_setCell_other w6 ⟨B + 1, 0, none⟩ g (.int .i64 sh) (by dsimp only; omega)).trans (unhid HR6))
  clear c0 f0
  generalize w6.setCell ⟨B + 1, 0, none⟩ (.int .i64 sh) = w7 at *
  have HX7 := hid hX7
  clear hX7 HX6 HR6 hg6
  go_upto_if 33 with (fail)
  go_cut [8] from 33 to 38 (fun s8 wz => s8 = .slice (some ⟨g, 0, none⟩) n n ∧ FI w B wz (fi sh (if 1 < n then numP y1 else 0) 0 (.slice none 0 0)) ∧ wz.heap[g]? = some (.cells row 9 (0, 0)))
  case first =>
    by_cases hk : 1 < n
    · have hki : (1 : Int) < (n : Int) := by omega
      have b1 : w7.cell? ⟨g, 1, none⟩ = some (.string (SB y1)) := (cell_of_row _ _ _ _ _ _ (unhid HR7)).trans (r1 hk)
      go_wp2_with fail
      refine (number_calls y1 w7 ((unhid HG).below (unhid HX7).below) (by omega)).mono ?_
      rintro e w8 ⟨rfl, hb⟩
      have HXa := hid ((unhid HX7).after hb)
      have HRa := hid ((hb.block g (Array.getElem?_eq_some_iff.1 (unhid HR7)).1).trans (unhid HR7))
      have c1 : w8.cell? ⟨B + 1, 1, none⟩ = some (.int .i64 0) := (unhid HXa).cell 1
      have f1 := (unhid HXa).frozen 1
      clear hb b1
      go_wp2_with fail
      go_meet
      case rel =>
        refine ⟨rfl, ?_, (heap_setCell_other _ _ g _ (by dsimp only; omega)).trans (unhid HRa)⟩
        rw [if_pos hk]
        exact (unhid HXa).set 1 _
    · have hki : ¬ (1 : Int) < (n : Int) := by omega
      go_wp2_with fail
      go_meet
      case rel =>
        refine ⟨rfl, ?_, unhid HR7⟩
        rw [if_neg hk]
        exact unhid HX7
  case rest =>
  obtain ⟨rfl, hX, hR⟩ := hcut
  clear HX7 HR7
  have HX8 := hid hX
  have HR8 := hid hR
  clear hX hR
  generalize (if 1 < n then numP y1 else 0) = sz at *
  go_upto_if 41 with (fail)
  go_cut [8] from 41 to 46 (fun s8 wz => s8 = .slice (some ⟨g, 0, none⟩) n n ∧ FI w B wz (fi sh sz (if 2 < n then numP y2 else 0) (.slice none 0 0)) ∧ wz.heap[g]? = some (.cells row 9 (0, 0)))
  case first =>
    by_cases hk : 2 < n
    · have hki : (2 : Int) < (n : Int) := by omega
      have b1 : wc.cell? ⟨g, 2, none⟩ = some (.string (SB y2)) := (cell_of_row _ _ _ _ _ _ (unhid HR8)).trans (r2 hk)
      go_wp2_with fail
      refine (number_calls y2 wc ((unhid HG).below (unhid HX8).below) (by omega)).mono ?_
      rintro e w8 ⟨rfl, hb⟩
      have HXa := hid ((unhid HX8).after hb)
      have HRa := hid ((hb.block g (Array.getElem?_eq_some_iff.1 (unhid HR8)).1).trans (unhid HR8))
      have c2 : w8.cell? ⟨B + 1, 2, none⟩ = some (.int .i64 0) := (unhid HXa).cell 2
      have f2 := (unhid HXa).frozen 2
      clear hb b1
      go_wp2_with fail
      go_meet
      case rel =>
        refine ⟨rfl, ?_, (heap_setCell_other _ _ g _ (by dsimp only; omega)).trans (unhid HRa)⟩
        rw [if_pos hk]
        exact (unhid HXa).set 2 _
    · have hki : ¬ (2 : Int) < (n : Int) := by omega
      go_wp2_with fail
      go_meet
      case rel =>
        refine ⟨rfl, ?_, unhid HR8⟩
        rw [if_neg hk]
        exact unhid HX8
  case rest =>
  obtain ⟨rfl, hX, hR⟩ := hcut
  clear HX8 HR8
  have HX9 := hid hX
  have HR9 := hid hR
  clear hX hR
  generalize (if 2 < n then numP y2 else 0) = hh at *
  go_upto_if 47 with (fail)
  go_cut [8] from 9 to 69 (fun s8 wz => s8 = .slice (some ⟨g, 0, none⟩) n n ∧ ∃ (A : Option Addr) (l : List It) (c : Nat), FI w B wz (fi sh sz hh (.slice A l.length c)) ∧ ItsOk wz A l ∧ (∀ a, A = some a → B + 1 < a.block) ∧ readF s = some ⟨sh, sz, hh, l⟩)
  case first =>
    cases p3 with
    | false =>
      have HF0 := hid ((unhid HRF).trans (if_neg (by simp)))
      go_wp2_with fail
      go_meet
      case rel => exact ⟨rfl, none, [], 0, unhid HX9, ItsOk.nil _ _, (fun a h => by cases h), unhid HF0⟩
    | true =>
      have HF0 := hid ((unhid HRF).trans (if_pos rfl))
      obtain ⟨hm1, hm2⟩ := split_len p2 [59, 32]
      have hwd2 := fun x (h : x ∈ Lib.split p2 [59, 32]) => split_word h
      have HWD2 := hid hwd2
      have HS2 := hid (split_lib p2 [59, 32] wc ((unhid HG).below (unhid HX9).below) (by omega) (by decide))
      generalize Lib.split p2 [59, 32] = vs at *
      go_wp2_with fail
      refine (unhid HS2).mono ?_
      rintro e wd ⟨rfl, hwd⟩
      have hXd : FI w B wd (fi sh sz hh (.slice none 0 0)) := by rw [hwd]; exact (unhid HX9).after (below_alloc _ _)
      have hRd : wd.heap[wc.heap.size]? = some (.cells (strC vs).toArray 9 (0, 0)) := by rw [hwd]; exact heap_alloc_new _ _
      have hBd : B + 1 < wc.heap.size := (unhid HX9).size
      clear hwd HS2 HX9 HR9 hwd2
      generalize wc.heap.size = h at *
      have hhd : h < wd.heap.size := (Array.getElem?_eq_some_iff.1 hRd).1
      have HXd := hid hXd
      have HRd := hid hRd
      clear hXd hRd
      obtain ⟨i0, hi, hz0, hz1, hz2⟩ := info_parts info_item
      have hm : vs.length ≤ 5002 := by omega
      go_wp2_with fail
      go_loopw [51] (fun i wr => ∃ (k : Nat) (l : List It) (v : Value), k ≤ vs.length ∧ i = .int .i64 k ∧ readAll (vs.take k) = some l ∧ (∀ x ∈ l, x.text.length ≤ 5000) ∧ FI w B wr (fi sh sz hh v) ∧ wr.ownsRow wd.heap.size 320 7 v l.length (its l) ∧ wr.heap[h]? = some (.cells (strC vs).toArray 9 (0, 0)) ∧ wd.heap.size ≤ wr.heap.size) (fun i _ => vs.length - (intOf i).toNat)
      case atStart => exact ⟨0, [], _, Nat.zero_le _, rfl, rfl, by simp, unhid HXd, World.ownsRow_nil _ _ _ _, unhid HRd, Nat.le_refl _⟩
      case round =>
        obtain ⟨k, l, v, hk, rfl, hra, htx, hXr, hown, hRr, hsr⟩ := hrel
        have HXr := hid hXr
        have HRr := hid hRr
        have HOWN := hid hown
        have HRA := hid hra
        have HTX := hid htx
        clear hXr hRr hown hra htx
        by_cases hlt : k < vs.length
        · have hv := (unhid HWD2) vs[k] (List.getElem_mem hlt)
          have hc : wr.cell? ⟨h, k, none⟩ = some (.string (SB vs[k])) := (cell_of_row _ _ _ _ _ _ (unhid HRr)).trans (by simp [strC, List.getElem?_eq_getElem hlt])
          have HTK := hid (List.take_succ_eq_append_getElem hlt)
          have hmem : vs[k] ∈ vs := List.getElem_mem hlt
          have HMEM := hid hmem
          clear hmem
          generalize vs[k] = u at *
          go_wp2_with fail
          refine (readItem_calls u wr ((unhid HG).below (unhid HXr).below) (by omega)).mono ?_
          intro e w5 hres
          obtain ⟨hb5, ⟨hno, ik, ic, il, io, ia, ib, it, rfl⟩ | ⟨x, hx, rfl⟩⟩ := readR_cases hres
          · have HX6 := hid (((unhid HXr).after hb5).after (below_alloc w5 (.cells #[.int .i64 ik, .int .i64 ic, .int .i64 il, .int .i64 io, .int .i64 ia, .int .i64 ib, .string (SB it)] 320)))
            have HPN := hid (par_none ((unhid HF0).trans (by rw [readAll_no (unhid HMEM) hno]; rfl)))
            clear hno hb5 hres
            go_wp2_with (refine wpList_store_row rfl 214 (.tmp 2) (.tmp 62) rfl B (fi 0 0 0 (.slice none 0 0)) rfl rfl 214 _ (unhid HX6).res (fi_size _ _ _ _) rfl (fi_one _ _ _ _ _ _) ?_)
            (try simp only [Exit.inBlock, Exit.then])
            refine bodyPost_ret_by (v := .tuple #[.agg (fi 0 0 0 (.slice none 0 0)), .int .i64 4]) (results_cell_row_tmp Tryz.results171 _ _ B 214 (fi 0 0 0 (.slice none 0 0)) (0, 0) _ _ rfl rfl ((unhid HX6).doneH _) Tryz.underlying214 rfl (fi_size _ _ _ _)) rfl ?_
            exact parR_no (unhid HPN) ((unhid HX6).doneB _)
          · have HX6 := hid ((((unhid HXr).after hb5).after (below_alloc w5 (.cells #[.int .i64 x.kind, .int .i64 x.colour, .int .i64 x.left, .int .i64 x.low, .int .i64 x.a, .int .i64 x.b, .string (SB x.text)] 320))).after (below_alloc _ (.cells #[.int .i64 x.kind, .int .i64 x.colour, .int .i64 x.left, .int .i64 x.low, .int .i64 x.a, .int .i64 x.b, .string (SB x.text)] 320)))
            have c3 : w5.cell? ⟨B + 1, 3, none⟩ = some v := ((unhid HXr).after hb5).cell 3
            have hB5 : B + 1 < w5.heap.size := ((unhid HXr).after hb5).size
            have HO5 := hid (own_below (unhid HOWN) hb5)
            have HR5 := hid ((hb5.block h (Array.getElem?_eq_some_iff.1 (unhid HRr)).1).trans (unhid HRr))
            have HTX' := hid (show ∀ y ∈ l ++ [x], y.text.length ≤ 5000 from fun y hy => by
              rcases List.mem_append.1 hy with hy | hy
              · exact (unhid HTX) y hy
              · rw [List.mem_singleton.1 hy]
                exact Nat.le_trans (readIt_text hx) (by omega))
            have HRA' := hid (readAll_snoc (unhid HRA) hx)
            have hs5 : wd.heap.size ≤ w5.heap.size := Nat.le_trans hsr hb5.size
            have hll : l.length ≤ 5002 := by have := readAll_len (unhid HRA); rw [List.length_take] at this; omega
            obtain ⟨A0, c1, rfl, -⟩ := own_slice (unhid HO5)
            clear hx hb5 hres hsr
            go_wp2_with (at_builtin; refine wpList_append_own _ rfl _ _ 212 rfl wd.heap.size 320 i0 _ 7 64 Tryz.underlying212 hi hz0 hz1 hz2 rfl (by decide) _ _ _ rfl (((unhid HO5).alloc _).alloc _) ⟨w5.heap.size + 1, 0, none⟩ 1 1 (itC x) rfl rfl ?c1 ?c2 ?c3 ?c4 ?c5 ?_)
            case c1 =>
              intro j u hj
              match j, hj with
              | 0, hj => simp [itC] at hj; subst hj; simp [Addr.add, go_sem]
              | 1, hj => simp [itC] at hj; subst hj; simp [Addr.add, go_sem]
              | 2, hj => simp [itC] at hj; subst hj; simp [Addr.add, go_sem]
              | 3, hj => simp [itC] at hj; subst hj; simp [Addr.add, go_sem]
              | 4, hj => simp [itC] at hj; subst hj; simp [Addr.add, go_sem]
              | 5, hj => simp [itC] at hj; subst hj; simp [Addr.add, go_sem]
              | 6, hj => simp [itC] at hj; subst hj; simp [Addr.add, go_sem]
            case c2 => intro u hu; simp [itC] at hu; rcases hu with rfl | rfl | rfl | rfl | rfl | rfl | rfl <;> rfl
            case c3 => unfold maxLen; omega
            case c4 => omega
            case c5 => simp; omega
            intro v' w3 hown3 hg3 _
            obtain ⟨A3, c3', rfl, -⟩ := own_slice hown3
            have hrow3 : ∀ k, (Value.slice A0 l.length c1).ownBlock = some k → wd.heap.size ≤ k := fun k hk => by
              rcases Nat.lt_or_ge k wd.heap.size with h' | h'
              · exact absurd hk (own_ne (unhid HO5) (Or.inl h'))
              · exact h'
            have hX3 := (unhid HX6).grown hg3 (fun k hk => by have := hrow3 k hk; omega)
            have hR3 := (hg3.block h (by simp; omega) (fun e => by have := hrow3 h e.symm; omega)).trans (((below_alloc' (below_alloc w5 (.cells #[.int .i64 x.kind, .int .i64 x.colour, .int .i64 x.left, .int .i64 x.low, .int .i64 x.a, .int .i64 x.b, .string (SB x.text)] 320)) (.cells #[.int .i64 x.kind, .int .i64 x.colour, .int .i64 x.left, .int .i64 x.low, .int .i64 x.a, .int .i64 x.b, .string (SB x.text)] 320)).block h (by omega)).trans (unhid HR5))
            have hs3 : wd.heap.size ≤ w3.heap.size := by have := hg3.size; simp at this; omega
            have c33 : w3.cell? ⟨B + 1, 3, none⟩ = some (.slice A0 l.length c1) := hX3.cell 3
            have f33 := hX3.frozen 3
            have HX3 := hid hX3
            have HR3' := hid hR3
            have HO3 := hid hown3
            clear hX3 hR3 hown3 hg3 hrow3 c3
            go_wp2_with fail
            go_roundw
            case rel =>
              refine ⟨k + 1, l ++ [x], .slice A3 (l.length + 1) c3', by omega, by go_num, by rw [unhid HTK]; exact unhid HRA', unhid HTX', (unhid HX3).set 3 _, ?_, (heap_setCell_other _ _ h _ (by dsimp only; omega)).trans (unhid HR3'), by simpa using hs3⟩
              have ho := own_setCell (unhid HO3) (a := ⟨B + 1, 3, none⟩) (by dsimp only; omega) (.slice A3 (l.length + 1) c3')
              rw [List.length_append, List.length_singleton, show its (l ++ [x]) = its l ++ itC x by simp [its]]
              exact ho
            case measure => simp [intOf]; omega
        · obtain rfl : k = vs.length := by omega
          obtain ⟨A0, c1, rfl, hrd, hob⟩ := own_slice (unhid HOWN)
          have HOB := hid hob
          clear hob
          have hll : l.length ≤ 5002 := by have := readAll_len (unhid HRA); rw [List.length_take] at this; omega
          have HRD := hid hrd
          clear hrd
          go_wp2_with fail
          go_meet
          case rel =>
            refine ⟨rfl, A0, l, c1, unhid HXr, ⟨by omega, unhid HRD, fun x hx => Nat.le_trans ((unhid HTX) x hx) (by omega)⟩, fun a ha => ?_, ?_⟩
            · subst ha
              have := (unhid HOB) a.block rfl
              omega
            have hra := unhid HRA
            rw [List.take_length] at hra
            rw [unhid HF0, hra]
            rfl
  case rest =>
    obtain ⟨rfl, A, l, c, hX, hI, hAB, hF⟩ := hcut
    have HX := hid hX
    have HI := hid hI
    have HPS := hid (par_some hF)
    have HGZ := hid ((unhid HG).below hX.below)
    clear hX hI hF HRF
    have c0 : wc.cell? ⟨B + 1, 0, none⟩ = some (.int .i64 sh) := (unhid HX).cell 0
    have c1 : wc.cell? ⟨B + 1, 1, none⟩ = some (.int .i64 sz) := (unhid HX).cell 1
    have c2 : wc.cell? ⟨B + 1, 2, none⟩ = some (.int .i64 hh) := (unhid HX).cell 2
    have c3 : wc.cell? ⟨B + 1, 3, none⟩ = some (.slice A l.length c) := (unhid HX).cell 3
    go_wp2_with fail
    refine (valid_calls (⟨sh, sz, hh, l⟩ : Fc) A c wc (unhid HI)).mono ?_
    rintro e w2 ⟨rfl, hb2⟩
    have HX2 := hid ((unhid HX).after hb2)
    have HI2 := hid ((unhid HI).below hb2)
    have HG2 := hid ((unhid HGZ).below hb2)
    clear hb2 c0 c1 c2 c3
    cases hv : fcB (⟨sh, sz, hh, l⟩ : Fc) with
    | false =>
      have HPN := hid ((unhid HPS).trans (if_neg (by rw [hv]; simp)))
      clear hv
      go_wp2_with (refine wpList_store_row rfl 214 (.tmp 2) (.tmp 79) rfl B (fi 0 0 0 (.slice none 0 0)) rfl rfl 214 _ (unhid HX2).res (fi_size _ _ _ _) rfl (fi_one _ _ _ _ _ _) ?_)
      (try simp only [Exit.inBlock, Exit.then])
      refine bodyPost_ret_by (v := .tuple #[.agg (fi 0 0 0 (.slice none 0 0)), .int .i64 4]) (results_cell_row_tmp Tryz.results171 _ _ B 214 (fi 0 0 0 (.slice none 0 0)) (0, 0) _ _ rfl rfl ((unhid HX2).doneH _) Tryz.underlying214 rfl (fi_size _ _ _ _)) rfl ?_
      exact parR_no (unhid HPN) ((unhid HX2).doneB _)
    | true =>
      have HFM := hid (format_calls (⟨sh, sz, hh, l⟩ : Fc) A c w2 (unhid HG2) (unhid HI2) hv)
      have c0 : w2.cell? ⟨B + 1, 0, none⟩ = some (.int .i64 sh) := (unhid HX2).cell 0
      have c1 : w2.cell? ⟨B + 1, 1, none⟩ = some (.int .i64 sz) := (unhid HX2).cell 1
      have c2 : w2.cell? ⟨B + 1, 2, none⟩ = some (.int .i64 hh) := (unhid HX2).cell 2
      have c3 : w2.cell? ⟨B + 1, 3, none⟩ = some (.slice A l.length c) := (unhid HX2).cell 3
      have HV := hid hv
      clear hv
      go_wp2_with fail
      refine (unhid HFM).mono ?_
      rintro e w4 ⟨rfl, hb4⟩
      have HX4 := hid ((unhid HX2).after hb4)
      have HI4 := hid ((unhid HI2).below hb4)
      clear hb4 c0 c1 c2 c3 HFM
      by_cases hq : fmtF (⟨sh, sz, hh, l⟩ : Fc) = s
      · have HPY := hid ((unhid HPS).trans (if_pos (by rw [unhid HV, decide_eq_true hq]; rfl)))
        have hqb : ((SB (fmtF (⟨sh, sz, hh, l⟩ : Fc))).toList == (SB s).toList) = true := by rw [hq]; simp
        clear hq
        have c0 : w4.cell? ⟨B + 1, 0, none⟩ = some (.int .i64 sh) := (unhid HX4).cell 0
        have c1 : w4.cell? ⟨B + 1, 1, none⟩ = some (.int .i64 sz) := (unhid HX4).cell 1
        have c2 : w4.cell? ⟨B + 1, 2, none⟩ = some (.int .i64 hh) := (unhid HX4).cell 2
        have c3 : w4.cell? ⟨B + 1, 3, none⟩ = some (.slice A l.length c) := (unhid HX4).cell 3
        go_wp2_with (refine wpList_store_row rfl 214 (.tmp 2) (.tmp 80) rfl B (fi sh sz hh (.slice A l.length c)) rfl rfl 214 _ (unhid HX4).res (fi_size _ _ _ _) rfl (fi_one _ _ _ _ _ _) ?_)
        (try simp only [Exit.inBlock, Exit.then])
        refine bodyPost_ret_by (v := .tuple #[.agg (fi sh sz hh (.slice A l.length c)), .int .i64 0]) (results_cell_row_tmp Tryz.results171 _ _ B 214 (fi sh sz hh (.slice A l.length c)) (0, 0) _ _ rfl rfl ((unhid HX4).doneH _) Tryz.underlying214 rfl (fi_size _ _ _ _)) rfl ?_
        exact parR_yes (f := ⟨sh, sz, hh, l⟩) (unhid HPY) ((unhid HX4).doneB _) (itsOk_setRow (unhid HI4) hAB _)
      · have HPN := hid ((unhid HPS).trans (if_neg (by simp [hq])))
        have hqb : ((SB (fmtF (⟨sh, sz, hh, l⟩ : Fc))).toList == (SB s).toList) = false := by rw [ByteArray.toList_eq, ByteArray.toList_eq, SB_data, SB_data]; simpa using hq
        clear hq
        go_wp2_with (refine wpList_store_row rfl 214 (.tmp 2) (.tmp 79) rfl B (fi 0 0 0 (.slice none 0 0)) rfl rfl 214 _ (unhid HX4).res (fi_size _ _ _ _) rfl (fi_one _ _ _ _ _ _) ?_)
        (try simp only [Exit.inBlock, Exit.then])
        refine bodyPost_ret_by (v := .tuple #[.agg (fi 0 0 0 (.slice none 0 0)), .int .i64 4]) (results_cell_row_tmp Tryz.results171 _ _ B 214 (fi 0 0 0 (.slice none 0 0)) (0, 0) _ _ rfl rfl ((unhid HX4).doneH _) Tryz.underlying214 rfl (fi_size _ _ _ _)) rfl ?_
        exact parR_no (unhid HPN) ((unhid HX4).doneB _)
end

section
open Go.RowKit

/-- The block B holds the face f. -/
structure FaceAt (w : World) (B : Nat) (f : Fc) (A : Option Addr) (c : Nat) : Prop where
  heap : w.heap[B]? = some (.cells #[.int .i64 f.shape, .int .i64 f.size, .int .i64 f.height, .slice A f.items.length c] 214 (0, 0))
  ok : ItsOk w A f.items
theorem FaceAt.lt {w : World} {B : Nat} {f : Fc} {A : Option Addr} {c : Nat} (h : FaceAt w B f A c) : B < w.heap.size := (Array.getElem?_eq_some_iff.1 h.heap).1
theorem FaceAt.below {w w' : World} {B : Nat} {f : Fc} {A : Option Addr} {c : Nat} (h : FaceAt w B f A c) (hb : Below w.heap.size w w') : FaceAt w' B f A c := ⟨(hb.block B h.lt).trans h.heap, h.ok.below hb⟩
theorem FaceAt.new (w : World) {f : Fc} {A : Option Addr} (c : Nat) (h : ItsOk w A f.items) : FaceAt (w.alloc (.cells #[.int .i64 f.shape, .int .i64 f.size, .int .i64 f.height, .slice A f.items.length c] 214)) w.heap.size f A c := ⟨heap_alloc_new _ _, h.below (below_alloc _ _)⟩
theorem FaceAt.cells {w : World} {B : Nat} {f : Fc} {A : Option Addr} {c : Nat} (h : FaceAt w B f A c) :
    w.cell? ⟨B, 0, none⟩ = some (.int .i64 f.shape) ∧ w.cell? ⟨B, 1, none⟩ = some (.int .i64 f.size) ∧ w.cell? ⟨B, 2, none⟩ = some (.int .i64 f.height) ∧ w.cell? ⟨B, 3, none⟩ = some (.slice A f.items.length c) :=
  ⟨cell_of_row _ _ _ _ _ _ h.heap, cell_of_row _ _ _ _ _ _ h.heap, cell_of_row _ _ _ _ _ _ h.heap, cell_of_row _ _ _ _ _ _ h.heap⟩

/-- How far a law has come: nothing that was there has turned, the library's variables stand. -/
structure On (w0 w : World) : Prop where
  bel : Below w0.heap.size w0 w
  gl : Gl w
theorem On.start {w : World} (h : Gl w) : On w w := ⟨Below.refl _ _, h⟩
theorem On.next {w0 w w' : World} (h : On w0 w) (hb : Below w.heap.size w w') : On w0 w' := ⟨h.bel.trans (hb.mono h.bel.size), h.gl.below hb⟩
theorem On.lay {w0 w : World} (h : On w0 w) (o : Obj) : On w0 (w.alloc o) := h.next (below_alloc _ _)
end

section
open Go.RowKit

def tyC (t : Ty) : List Value := [.int .i64 t.code, .int .i64 t.grade, .int .i64 t.frm, .int .i64 t.to, .string (SB t.text)]
def stC (s : Stp) : List Value := [.int .i64 s.count, .int .i64 s.mille]
/-- A type as a value. -/
def tyV (t : Ty) : Value := .agg #[.int .i64 t.code, .int .i64 t.grade, .int .i64 t.frm, .int .i64 t.to, .string (SB t.text)]
structure StpsOk (w : World) (A : Option Addr) (l : List Stp) : Prop where
  n : l.length ≤ 140737488355328
  rd : Rd w A (l.flatMap stC)
structure TysOk (w : World) (A : Option Addr) (l : List Ty) : Prop where
  n : l.length ≤ 140737488355328
  rd : Rd w A (l.flatMap tyC)
  txt : ∀ t ∈ l, t.text.length ≤ 140737488355328
structure IntsOk (w : World) (A : Option Addr) (l : List Int) : Prop where
  n : l.length ≤ 140737488355328
  rd : Rd w A (ints l)
theorem StpsOk.below {w w' : World} {A : Option Addr} {l : List Stp} (h : StpsOk w A l) (hb : Below w.heap.size w w') : StpsOk w' A l := ⟨h.n, h.rd.below hb⟩
theorem TysOk.below {w w' : World} {A : Option Addr} {l : List Ty} (h : TysOk w A l) (hb : Below w.heap.size w w') : TysOk w' A l := ⟨h.n, h.rd.below hb, h.txt⟩
theorem IntsOk.below {w w' : World} {A : Option Addr} {l : List Int} (h : IntsOk w A l) (hb : Below w.heap.size w w') : IntsOk w' A l := ⟨h.n, h.rd.below hb⟩
theorem stps_ne {l : List Stp} {k : Nat} (h : k < l.length) : l.flatMap stC ≠ [] := flat_ne (f := stC) (K := 2) (fun _ => rfl) (by omega) h
theorem tys_ne {l : List Ty} {k : Nat} (h : k < l.length) : l.flatMap tyC ≠ [] := flat_ne (f := tyC) (K := 5) (fun _ => rfl) (by omega) h
theorem getD_at {α : Type} {l : List α} {k : Nat} (h : k < l.length) (d : α) : l.getD k d = l[k] := by rw [List.getD_eq_getElem?_getD, List.getElem?_eq_getElem h]; rfl
theorem stps_cells {w : World} {b off : Nat} {l : List Stp} (h : ∀ j u, (l.flatMap stC)[j]? = some u → w.cell? ⟨b, off + j, none⟩ = some u) {k : Nat} (hk : k < l.length) :
    w.cell? ⟨b, off + k * 2, none⟩ = some (.int .i64 (l.getD k ⟨0, 0⟩).count) ∧ w.cell? ⟨b, off + k * 2 + 1, none⟩ = some (.int .i64 (l.getD k ⟨0, 0⟩).mille) := by
  rw [getD_at hk]
  exact ⟨h _ _ (flat_at (f := stC) (K := 2) (fun _ => rfl) l k 0 hk (by omega)), h _ _ (flat_at (f := stC) (K := 2) (fun _ => rfl) l k 1 hk (by omega))⟩
theorem tys_cells {w : World} {b off : Nat} {l : List Ty} (h : ∀ j u, (l.flatMap tyC)[j]? = some u → w.cell? ⟨b, off + j, none⟩ = some u) {k : Nat} (hk : k < l.length) :
    w.cell? ⟨b, off + k * 5, none⟩ = some (.int .i64 (l.getD k ⟨0, 0, 0, 0, []⟩).code) ∧ w.cell? ⟨b, off + k * 5 + 1, none⟩ = some (.int .i64 (l.getD k ⟨0, 0, 0, 0, []⟩).grade) ∧ w.cell? ⟨b, off + k * 5 + 2, none⟩ = some (.int .i64 (l.getD k ⟨0, 0, 0, 0, []⟩).frm) ∧
    w.cell? ⟨b, off + k * 5 + 3, none⟩ = some (.int .i64 (l.getD k ⟨0, 0, 0, 0, []⟩).to) ∧ w.cell? ⟨b, off + k * 5 + 4, none⟩ = some (.string (SB (l.getD k ⟨0, 0, 0, 0, []⟩).text)) := by
  rw [getD_at hk]
  exact ⟨h _ _ (flat_at (f := tyC) (K := 5) (fun _ => rfl) l k 0 hk (by omega)), h _ _ (flat_at (f := tyC) (K := 5) (fun _ => rfl) l k 1 hk (by omega)), h _ _ (flat_at (f := tyC) (K := 5) (fun _ => rfl) l k 2 hk (by omega)), h _ _ (flat_at (f := tyC) (K := 5) (fun _ => rfl) l k 3 hk (by omega)), h _ _ (flat_at (f := tyC) (K := 5) (fun _ => rfl) l k 4 hk (by omega))⟩
theorem nums_at {l : List Int} {k : Nat} (hk : k < l.length) : (ints l)[k]? = some (.int .i64 (l.getD k 0)) := by
  rw [getD_at hk]
  simp [ints, hk]
theorem nums_ne {l : List Int} {k : Nat} (hk : k < l.length) : ints l ≠ [] := by
  intro h
  have := congrArg List.length h
  simp [ints] at this
  subst this
  simp at hk
end

end Go.Proofs.YtfklckjfbnaoeaaGreatDoor
