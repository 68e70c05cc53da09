/-
  Lists of cases sorted.
-/
import Derived.Test.YtegghimjmbgghaaGreatBkFk
set_option linter.unusedSimpArgs false
set_option linter.unusedVariables false
namespace Go.Proofs.YtegghimjmbgghaaGreat
open Go.RowKit Go.Shelf Go.Sort

/-! ### Plain -/
def ltP (a b : Int × Int) : Bool := decide (a.1 < b.1) || (decide (a.1 = b.1) && decide (a.2 < b.2))
theorem ltP_irr (a : Int × Int) : ltP a a = false := by simp [ltP]
theorem ltP_trans {a b c : Int × Int} (h1 : ltP a b = true) (h2 : ltP b c = true) : ltP a c = true := by
  simp only [ltP, Bool.or_eq_true, Bool.and_eq_true, decide_eq_true_eq] at *
  omega
theorem ltP_total {a b : Int × Int} (h : a ≠ b) : ltP a b = true ∨ ltP b a = true := by
  simp only [ltP, Bool.or_eq_true, Bool.and_eq_true, decide_eq_true_eq]
  have : a.1 ≠ b.1 ∨ a.2 ≠ b.2 := by
    by_cases e : a.1 = b.1
    · exact .inr (fun e2 => h (Prod.ext e e2))
    · exact .inl e
  omega
/-- Cases in their order. -/
def AscP (D : List (Int × Int)) : Prop := D.Pairwise fun a b => ltP a b = true
theorem ascP_eq {D M : List (Int × Int)} (h1 : AscP D) (h2 : AscP M) (h : ∀ c, c ∈ D ↔ c ∈ M) : D = M :=
  asc_ext (lt := fun a b => ltP a b = true) (fun a h => by rw [ltP_irr] at h; cases h) (fun a b => ltP_trans a b) h1 h2 h
theorem AscP.nodup {D : List (Int × Int)} (h : AscP D) : D.Nodup := h.imp fun {a b} hab e => by subst e; rw [ltP_irr] at hab; cases hab

/-- A case of a valid record. -/
def CbP (c : Int × Int) : Prop := (1 ≤ c.1 ∧ c.1 ≤ 1000000000) ∧ 1 ≤ c.2 ∧ c.2 ≤ 6
abbrev CbT : Type := { c : Int × Int // CbP c }
instance : Inhabited CbT := ⟨⟨(1, 1), by unfold CbP; omega⟩⟩
def cmpC (x y : CbT) : Int := if x.1.1 = y.1.1 then x.1.2 - y.1.2 else x.1.1 - y.1.1
theorem cmpC_lt {x y : CbT} : ltOf cmpC x y = ltP x.1 y.1 := by
  unfold ltOf cmpC ltP
  rw [Bool.eq_iff_iff]
  simp only [Bool.or_eq_true, Bool.and_eq_true, decide_eq_true_eq]
  split <;> omega
theorem cmpC_swo : SWO (ltOf cmpC) where
  irrefl x := by rw [cmpC_lt]; exact ltP_irr _
  trans x y z h1 h2 := by rw [cmpC_lt] at *; exact ltP_trans h1 h2
  ntrans x y z h1 h2 := by
    rw [cmpC_lt] at *
    simp only [ltP, Bool.or_eq_false_iff, Bool.and_eq_false_iff, decide_eq_false_iff_not] at *
    omega

set_option maxRecDepth 100000 in
theorem cmpC_calls (w : World) (x y : CbT) : Calls Tryz.prog 67 #[.agg (fkC x.1).toArray, .agg (fkC y.1).toArray] w fun e w' => e = .returned (.int .i64 (cmpC x y)) ∧ ∃ n os, w' = grow (w.drewN n) os := by
  obtain ⟨⟨x1, x2⟩, hx⟩ := x
  obtain ⟨⟨y1, y2⟩, hy⟩ := y
  have HG := hid (show (w.alloc (.cells #[.int .i64 x1, .int .i64 x2] 116)).alloc (.cells #[.int .i64 y1, .int .i64 y2] 116) = grow (w.drewN 0) #[.cells #[.int .i64 x1, .int .i64 x2] 116, .cells #[.int .i64 y1, .int .i64 y2] 116] from by
    rw [alloc_eq_grow (w.alloc _), alloc_eq_grow w, grow_grow]
    rfl)
  have hb : (1 ≤ x1 ∧ x1 ≤ 1000000000) ∧ (1 ≤ y1 ∧ y1 ≤ 1000000000) ∧ (1 ≤ x2 ∧ x2 ≤ 6) ∧ 1 ≤ y2 ∧ y2 ≤ 6 := ⟨hx.1, hy.1, hx.2, hy.2⟩
  have w1 : IntKind.i64.wrap (x1 - y1) = x1 - y1 := IntWalk.i64_in _ (by omega)
  have w2 : IntKind.i64.wrap (x2 - y2) = x2 - y2 := IntWalk.i64_in _ (by omega)
  have HC := hid (show cmpC ⟨(x1, x2), hx⟩ ⟨(y1, y2), hy⟩ = if x1 = y1 then x2 - y2 else x1 - y1 from rfl)
  clear hb
  show Calls Tryz.prog 67 #[.agg #[.int .i64 x1, .int .i64 x2], .agg #[.int .i64 y1, .int .i64 y2]] w _
  go_enter Tryz.func67, Tryz.ntmps67
  by_cases e : x1 = y1
  · have q : (x1 != y1) = false := by simp [e]
    have HE := hid e
    clear e
    go_wp2_with fail
    go_ret
    exact ⟨by rw [unhid HC, if_pos (unhid HE)]; rfl, 0, _, unhid HG⟩
  · have q : (x1 != y1) = true := by simp [e]
    have HE := hid e
    clear e
    go_wp2_with fail
    go_ret
    exact ⟨by rw [unhid HC, if_neg (unhid HE)]; rfl, 0, _, unhid HG⟩
theorem pmap_fks : ∀ (D : List (Int × Int)) (h : ∀ c ∈ D, CbP c), (D.pmap (fun c hc => (⟨c, hc⟩ : CbT)) h).flatMap (fun x => fkC x.1) = fks D
  | [], _ => rfl
  | c :: D, h => by
    have := pmap_fks D (fun c hc => h c (List.mem_cons_of_mem _ hc))
    simp only [List.pmap, List.flatMap_cons, fks] at *
    rw [this]
theorem map_fks : ∀ (l : List CbT), l.flatMap (fun x => fkC x.1) = fks (l.map (·.1))
  | [] => rfl
  | c :: l => by
    have := map_fks l
    simp only [List.map_cons, List.flatMap_cons, fks] at *
    rw [this]
theorem sortCase_calls (D : List (Int × Int)) (hb : ∀ c ∈ D, CbP c) (hn : D.Nodup) (v : Value) (base : Nat) (w : World) (hown : w.ownsRow base 116 2 v D.length (fks D)) (hl : D.length ≤ 1000000) :
    Calls Tryz.prog 66 #[v, .func (.func 67) #[] #[]] w fun e w' =>
      e = .returned (.tuple #[]) ∧ ∃ M : List (Int × Int), M.Perm D ∧ AscP M ∧ w'.ownsRow base 116 2 v M.length (fks M) ∧ w.grownBy w' v.ownBlock := by
  obtain ⟨l, hl2⟩ : ∃ l, l = D.pmap (fun c hc => (⟨c, hc⟩ : CbT)) hb := ⟨_, rfl⟩
  have hll : l.length = D.length := by rw [hl2, List.length_pmap]
  have hlD : l.map (·.1) = D := by rw [hl2, List.map_pmap]; simp
  have hf : l.flatMap (fun x => fkC x.1) = fks D := by rw [hl2]; exact pmap_fks D hb
  have hcon := sortK Tryz.sortCase 2 (by omega) Tryz.isAgg116 Tryz.sizeOf116 (fun x : CbT => fkC x.1) (fun _ => rfl) (fun x v hv => fkC_one _ v hv) cmpC cmpC_swo 67
    (fun args w => by simp [go_sem]) (fun W x y => cmpC_calls W x y) l v base 116 w (by rw [hll, hf]; exact hown) (by omega)
  change Calls Tryz.prog 66 _ _ _ at hcon
  refine hcon.mono ?_
  rintro e w' ⟨rfl, L, hp, hs, hown', hg⟩
  have hpm : (L.map (·.1)).Perm D := by rw [← hlD]; exact hp.map _
  refine ⟨rfl, L.map (·.1), hpm, ?_, by rw [hpm.length_eq, ← map_fks, ← hll]; exact hown', hg⟩
  have hnd : (L.map (·.1)).Nodup := hpm.nodup_iff.2 hn
  unfold AscP
  rw [List.pairwise_iff_getElem] at hs ⊢
  rw [List.Nodup, List.pairwise_iff_getElem] at hnd
  intro i j hi hj hij
  have a := hs i j (by simpa using hi) (by simpa using hj) hij
  rw [cmpC_lt] at a
  rcases ltP_total (hnd i j hi hj hij) with h | h
  · exact h
  · simp only [List.getElem_map] at h
    rw [a] at h; cases h

end Go.Proofs.YtegghimjmbgghaaGreat
