/-
  The order of records, ascending lists, values. No program in sight.
-/
import Derived.Test.YtegghimjmbgghaaGreatBkP
set_option linter.unusedSimpArgs false
set_option linter.unusedVariables false
namespace Go.Proofs.YtegghimjmbgghaaGreat

/-! ### Ascending lists -/
theorem asc_ext {α : Type} {lt : α → α → Prop} (irr : ∀ a, ¬ lt a a) (tr : ∀ {a b c}, lt a b → lt b c → lt a c) : ∀ {l m : List α}, l.Pairwise lt → m.Pairwise lt → (∀ x, x ∈ l ↔ x ∈ m) → l = m
  | [], [], _, _, _ => rfl
  | [], b :: m, _, _, h => by have := (h b).2 (by simp); simp at this
  | a :: l, [], _, _, h => by have := (h a).1 (by simp); simp at this
  | a :: l, b :: m, hl, hm, h => by
    obtain ⟨l1, l2⟩ := List.pairwise_cons.1 hl
    obtain ⟨m1, m2⟩ := List.pairwise_cons.1 hm
    have hab : a = b := by
      have ha := (h a).1 (by simp)
      have hb := (h b).2 (by simp)
      rcases List.mem_cons.1 ha with e | ha
      · exact e
      · rcases List.mem_cons.1 hb with e | hb
        · exact e.symm
        · exact absurd (tr (l1 b hb) (m1 a ha)) (irr a)
    subst hab
    have ht : ∀ x, x ∈ l ↔ x ∈ m := fun x => by
      constructor
      · intro hx
        rcases List.mem_cons.1 ((h x).1 (by simp [hx])) with e | hx'
        · subst e; exact absurd (l1 x hx) (irr x)
        · exact hx'
      · intro hx
        rcases List.mem_cons.1 ((h x).2 (by simp [hx])) with e | hx'
        · subst e; exact absurd (m1 x hx) (irr x)
        · exact hx'
    rw [asc_ext irr tr l2 m2 ht]

/-- Lists of numbers in their order. -/
def ltL : List Int → List Int → Bool
  | a :: as, b :: bs => decide (a < b) || (decide (a = b) && ltL as bs)
  | _, _ => false
theorem ltL_irr : ∀ a : List Int, ltL a a = false
  | [] => rfl
  | a :: l => by simp [ltL, ltL_irr l]
theorem ltL_trans : ∀ {a b c : List Int}, ltL a b = true → ltL b c = true → ltL a c = true
  | [], _, _, h, _ => by simp [ltL] at h
  | _ :: _, [], _, h, _ => by simp [ltL] at h
  | _ :: _, _ :: _, [], _, h => by simp [ltL] at h
  | a :: as, b :: bs, c :: cs, h1, h2 => by
    simp only [ltL, Bool.or_eq_true, decide_eq_true_eq, Bool.and_eq_true] at *
    rcases h1 with h1 | ⟨h1, h3⟩ <;> rcases h2 with h2 | ⟨h2, h4⟩
    · exact .inl (by omega)
    · exact .inl (by omega)
    · exact .inl (by omega)
    · exact .inr ⟨by omega, ltL_trans h3 h4⟩
theorem ltL_total : ∀ {a b : List Int}, a.length = b.length → a ≠ b → ltL a b = true ∨ ltL b a = true
  | [], [], _, h => absurd rfl h
  | [], _ :: _, h, _ => by simp at h
  | _ :: _, [], h, _ => by simp at h
  | a :: as, b :: bs, h, hne => by
    simp only [ltL, Bool.or_eq_true, decide_eq_true_eq, Bool.and_eq_true]
    by_cases e : a = b
    · subst e
      rcases ltL_total (a := as) (b := bs) (by simpa using h) (fun e => hne (by rw [e])) with h | h
      · exact .inl (.inr ⟨rfl, h⟩)
      · exact .inr (.inr ⟨rfl, h⟩)
    · rcases Int.lt_or_gt_of_ne e with h | h
      · exact .inl (.inl h)
      · exact .inr (.inl h)

/-- A record stands in front of another one. -/
def rls (r q : Rc) : Bool := ltL r.flds q.flds
theorem rls_irr (r : Rc) : rls r r = false := ltL_irr _
theorem rls_trans {a b c : Rc} (h1 : rls a b = true) (h2 : rls b c = true) : rls a c = true := ltL_trans h1 h2
theorem rls_total {a b : Rc} (h : a ≠ b) : rls a b = true ∨ rls b a = true := ltL_total rfl (fun e => h (flds_inj e))
theorem rls_asymm {a b : Rc} (h : rls a b = true) : rls b a = false := by
  cases h2 : rls b a
  · rfl
  · have := rls_trans h h2
    rw [rls_irr] at this
    cases this
/-- By tablets first, then by numbers. -/
theorem rls_tab {a b : Rc} (h : rls a b = true) : a.tab < b.tab ∨ (a.tab = b.tab ∧ a.num ≤ b.num) := by
  simp only [rls, Rc.flds, ltL, Bool.or_eq_true, decide_eq_true_eq, Bool.and_eq_true] at h
  rcases h with h | ⟨h, h2⟩
  · exact .inl h
  · rcases h2 with h2 | ⟨h2, _⟩
    · exact .inr ⟨h, by omega⟩
    · exact .inr ⟨h, by omega⟩

/-- A list of records in their order. -/
def Asc (L : List Rc) : Prop := L.Pairwise fun a b => rls a b = true
theorem asc_eq {L M : List Rc} (h1 : Asc L) (h2 : Asc M) (h : ∀ r, r ∈ L ↔ r ∈ M) : L = M :=
  asc_ext (lt := fun a b => rls a b = true) (fun a h => by rw [rls_irr] at h; cases h) (fun a b => rls_trans a b) h1 h2 h
theorem Asc.nodup {L : List Rc} (h : Asc L) : L.Nodup := h.imp fun {a b} hab e => by subst e; rw [rls_irr] at hab; cases hab
theorem Asc.filter {L : List Rc} (h : Asc L) (p : Rc → Bool) : Asc (L.filter p) := List.Pairwise.filter _ h

/-- How many records at the front stand in front of r. -/
def fnd (r : Rc) : List Rc → Nat
  | [] => 0
  | q :: L => if rls q r then fnd r L + 1 else 0
theorem fnd_le (r : Rc) : ∀ L : List Rc, fnd r L ≤ L.length
  | [] => Nat.le_refl _
  | q :: L => by
    have := fnd_le r L
    unfold fnd
    split <;> simp <;> omega
theorem fnd_lt (r : Rc) : ∀ (L : List Rc) (i : Nat) (hi : i < L.length), i < fnd r L → rls L[i] r = true
  | [], _, hi, _ => by simp at hi
  | q :: L, i, hi, h => by
    unfold fnd at h
    split at h
    · cases i with
      | zero => assumption
      | succ i => exact fnd_lt r L i (by simpa using hi) (by omega)
    · omega
theorem fnd_at (r : Rc) : ∀ (L : List Rc) (h : fnd r L < L.length), rls (L[fnd r L]'h) r = false
  | [], h => by simp at h
  | q :: L, h => by
    cases hq : rls q r
    · simp [fnd, hq]
    · have e : fnd r (q :: L) = fnd r L + 1 := by simp [fnd, hq]
      have h2 : fnd r L < L.length := by rw [e] at h; simpa using h
      have := fnd_at r L h2
      simpa [e] using this
/-- The number of steps of the search is told by what it meets. -/
theorem fnd_is {r : Rc} {L : List Rc} {k : Nat} (hk : k ≤ L.length) (h1 : ∀ (i : Nat) (hi : i < L.length), i < k → rls L[i] r = true) (h2 : ∀ (h : k < L.length), rls L[k] r = false) : fnd r L = k := by
  rcases Nat.lt_trichotomy (fnd r L) k with h | h | h
  · have := fnd_at r L (by omega)
    rw [h1 _ _ h] at this
    cases this
  · exact h
  · have hl := fnd_le r L
    have := fnd_lt r L k (by omega) h
    rw [h2 (by omega)] at this
    cases this
/-- In an ascending list the record stands there or nowhere. -/
theorem fnd_mem {r : Rc} {L : List Rc} (hA : Asc L) : r ∈ L ↔ ∃ h : fnd r L < L.length, L[fnd r L]'h = r := by
  constructor
  · intro hm
    obtain ⟨i, hi, e⟩ := List.getElem_of_mem hm
    have : fnd r L = i := fnd_is (by omega) (fun j hj hji => by
      have := (List.pairwise_iff_getElem.1 hA) j i hj hi hji
      rw [e] at this
      exact this) (fun h => by rw [e]; exact rls_irr r)
    subst this
    exact ⟨hi, e⟩
  · rintro ⟨h, e⟩
    rw [← e]
    exact List.getElem_mem h
/-- A record put into a list. -/
def ins (r : Rc) (L : List Rc) : List Rc := L.take (fnd r L) ++ r :: L.drop (fnd r L)
theorem mem_ins {r q : Rc} {L : List Rc} : q ∈ ins r L ↔ q = r ∨ q ∈ L := by
  unfold ins
  rw [List.mem_append, List.mem_cons]
  constructor
  · rintro (h | h | h)
    · exact .inr (List.mem_of_mem_take h)
    · exact .inl h
    · exact .inr (List.mem_of_mem_drop h)
  · rintro (h | h)
    · exact .inr (.inl h)
    · rw [← List.take_append_drop (fnd r L) L] at h
      rcases List.mem_append.1 h with h | h
      · exact .inl h
      · exact .inr (.inr h)
theorem asc_ins {r : Rc} {L : List Rc} (hA : Asc L) (hr : r ∉ L) : Asc (ins r L) := by
  have hd : ∀ q ∈ L.drop (fnd r L), rls r q = true := by
    intro q hq
    obtain ⟨i, hi, e⟩ := List.getElem_of_mem hq
    rw [List.getElem_drop] at e
    have hi' : fnd r L + i < L.length := by rw [List.length_drop] at hi; omega
    have h0 := fnd_at r L (by omega)
    have hne : L[fnd r L]'(by omega) ≠ r := fun e => hr (e ▸ List.getElem_mem _)
    have h1 : rls r (L[fnd r L]'(by omega)) = true := by
      rcases rls_total hne with h | h
      · rw [h0] at h; cases h
      · exact h
    rw [← e]
    cases i with
    | zero => exact h1
    | succ i => exact rls_trans h1 ((List.pairwise_iff_getElem.1 hA) (fnd r L) (fnd r L + (i + 1)) (by omega) hi' (by omega))
  have ht : ∀ q ∈ L.take (fnd r L), rls q r = true := by
    intro q hq
    obtain ⟨i, hi, e⟩ := List.getElem_of_mem hq
    rw [List.getElem_take] at e
    rw [List.length_take] at hi
    rw [← e]
    exact fnd_lt r L i (by omega) (by omega)
  unfold ins Asc
  rw [List.pairwise_append]
  refine ⟨hA.sublist (List.take_sublist _ _), List.pairwise_cons.2 ⟨hd, hA.sublist (List.drop_sublist _ _)⟩, fun a ha b hb => ?_⟩
  rcases List.mem_cons.1 hb with rfl | hb
  · exact ht a ha
  · exact rls_trans (ht a ha) (hd b hb)
/-- A record added to a list. -/
def addR (r : Rc) (L : List Rc) : List Rc := if r ∈ L then L else ins r L
theorem mem_addR {r q : Rc} {L : List Rc} : q ∈ addR r L ↔ q = r ∨ q ∈ L := by
  unfold addR
  split
  · rename_i h
    exact ⟨.inr, fun h2 => h2.elim (fun e => e ▸ h) id⟩
  · exact mem_ins
theorem asc_addR {r : Rc} {L : List Rc} (hA : Asc L) : Asc (addR r L) := by
  unfold addR
  split
  · exact hA
  · rename_i h
    exact asc_ins hA h

/-! ### Ascending numbers -/
def AscI (l : List Int) : Prop := l.Pairwise fun a b => a < b
theorem ascI_eq {l m : List Int} (h1 : AscI l) (h2 : AscI m) (h : ∀ x, x ∈ l ↔ x ∈ m) : l = m :=
  asc_ext (lt := fun a b : Int => a < b) (fun a => Int.lt_irrefl a) (fun a b => Int.lt_trans a b) h1 h2 h
/-- How many numbers at the front are at most v. -/
def fndI (v : Int) : List Int → Nat
  | [] => 0
  | x :: l => if x ≤ v then fndI v l + 1 else 0
theorem fndI_le (v : Int) : ∀ l : List Int, fndI v l ≤ l.length
  | [] => Nat.le_refl _
  | x :: l => by
    have := fndI_le v l
    unfold fndI
    split <;> simp <;> omega
theorem fndI_lt (v : Int) : ∀ (l : List Int) (i : Nat) (hi : i < l.length), i < fndI v l → l[i] ≤ v
  | [], _, hi, _ => by simp at hi
  | q :: L, i, hi, h => by
    unfold fndI at h
    split at h
    · cases i with
      | zero => assumption
      | succ i => exact fndI_lt v L i (by simpa using hi) (by omega)
    · omega
theorem fndI_at (v : Int) : ∀ (L : List Int) (h : fndI v L < L.length), v < (L[fndI v L]'h)
  | [], h => by simp at h
  | q :: L, h => by
    by_cases hq : q ≤ v
    · have e : fndI v (q :: L) = fndI v L + 1 := by simp [fndI, hq]
      have h2 : fndI v L < L.length := by rw [e] at h; simpa using h
      have := fndI_at v L h2
      simpa [e] using this
    · have e : fndI v (q :: L) = 0 := by simp [fndI, hq]
      simp only [e, List.getElem_cons_zero]
      omega
/-- A number put into an ascending list, once. -/
def putI (v : Int) (l : List Int) : List Int := if v ∈ l then l else l.take (fndI v l) ++ v :: l.drop (fndI v l)
theorem mem_putI {v x : Int} {l : List Int} : x ∈ putI v l ↔ x = v ∨ x ∈ l := by
  unfold putI
  split
  · rename_i h
    exact ⟨.inr, fun h2 => h2.elim (fun e => e ▸ h) id⟩
  · rw [List.mem_append, List.mem_cons]
    constructor
    · rintro (h | h | h)
      · exact .inr (List.mem_of_mem_take h)
      · exact .inl h
      · exact .inr (List.mem_of_mem_drop h)
    · rintro (h | h)
      · exact .inr (.inl h)
      · rw [← List.take_append_drop (fndI v l) l] at h
        rcases List.mem_append.1 h with h | h
        · exact .inl h
        · exact .inr (.inr h)
theorem ascI_putI {v : Int} {l : List Int} (hA : AscI l) : AscI (putI v l) := by
  unfold putI
  split
  · exact hA
  rename_i hr
  have hd : ∀ q ∈ l.drop (fndI v l), v < q := by
    intro q hq
    obtain ⟨i, hi, e⟩ := List.getElem_of_mem hq
    rw [List.getElem_drop] at e
    have hi' : fndI v l + i < l.length := by rw [List.length_drop] at hi; omega
    have h0 := fndI_at v l (by omega)
    rw [← e]
    cases i with
    | zero => exact h0
    | succ i => exact Int.lt_trans h0 ((List.pairwise_iff_getElem.1 hA) (fndI v l) (fndI v l + (i + 1)) (by omega) hi' (by omega))
  have ht : ∀ q ∈ l.take (fndI v l), q < v := by
    intro q hq
    have hm := List.mem_of_mem_take hq
    obtain ⟨i, hi, e⟩ := List.getElem_of_mem hq
    rw [List.getElem_take] at e
    rw [List.length_take] at hi
    have := fndI_lt v l i (by omega) (by omega)
    rw [e] at this
    have : q ≠ v := fun e => hr (e ▸ hm)
    omega
  unfold AscI
  rw [List.pairwise_append]
  refine ⟨hA.sublist (List.take_sublist _ _), List.pairwise_cons.2 ⟨hd, hA.sublist (List.drop_sublist _ _)⟩, fun a ha b hb => ?_⟩
  rcases List.mem_cons.1 hb with rfl | hb
  · exact ht a ha
  · exact Int.lt_trans (ht a ha) (hd b hb)
/-- The numbers of a list, ascending, each once. -/
def setI (l : List Int) : List Int := l.foldl (fun a v => putI v a) []
theorem setI_all : ∀ (l : List Int) (a : List Int), AscI a → AscI (l.foldl (fun a v => putI v a) a) ∧ ∀ x, x ∈ l.foldl (fun a v => putI v a) a ↔ x ∈ l ∨ x ∈ a
  | [], a, h => ⟨h, fun x => by simp⟩
  | v :: l, a, h => by
    obtain ⟨h1, h2⟩ := setI_all l (putI v a) (ascI_putI h)
    refine ⟨h1, fun x => ?_⟩
    rw [List.foldl_cons, h2, mem_putI, List.mem_cons]
    constructor
    · rintro (h | h | h)
      · exact .inl (.inr h)
      · exact .inl (.inl h)
      · exact .inr h
    · rintro ((h | h) | h)
      · exact .inr (.inl h)
      · exact .inl h
      · exact .inr (.inr h)
theorem setI_asc (l : List Int) : AscI (setI l) := (setI_all l [] List.Pairwise.nil).1
theorem mem_setI {l : List Int} {x : Int} : x ∈ setI l ↔ x ∈ l := by
  unfold setI
  rw [(setI_all l [] List.Pairwise.nil).2]
  simp
theorem setI_snoc (l : List Int) (v : Int) : setI (l ++ [v]) = putI v (setI l) := by simp [setI, List.foldl_append]

/-! ### Values -/
/-- Records of one sign and field. -/
def csB (sign fld : Int) (r : Rc) : Bool := decide (r.sign = sign) && decide (r.fld = fld)
/-- A head among records. -/
def headB (l : List Rc) (r : Rc) : Bool := l.all fun q => !befB r q
def valsP (l : List Rc) : List Int := setI ((l.filter (headB l)).map Rc.val)
/-- The records that count. -/
noncomputable def cntL (L : List Rc) : List Rc := L.filter (cntB L)
noncomputable def waitL (L : List Rc) : List Rc := L.filter fun r => !cntB L r
noncomputable def valuesP (L : List Rc) (sign fld : Int) : List Int := valsP ((cntL L).filter (csB sign fld))

end Go.Proofs.YtegghimjmbgghaaGreat
