/-
  Maps by their entries: keys of any kind, elements as the values that they are. No program in sight.
-/
import Derived.Test.YtegghimjmbgghaaGreatKit
import Derived.Maps.OwnSet
import Derived.Maps.OwnIn
import Derived.Maps.RangeWalk
import Derived.Maps.Ext
set_option linter.unusedSimpArgs false
set_option linter.unusedVariables false
namespace Go.Proofs.YtegghimjmbgghaaGreat
open Go.RowKit

/-- How a key type's values are written. -/
structure KeyEnc (P : Program) (k : TypeId) (α : Type) where
  W : α → Prop
  enc : α → Value
  lit : α → Lit
  law : Maps.Keyed P k
  key : ∀ a, W a → keyOf P k (enc a) = some (lit a)
  inv : ∀ v l, keyOf P k v = some l → ∃ a, W a ∧ v = enc a
  inj : ∀ a b, enc a = enc b → a = b

/-- An element reads as itself. -/
def heldR (v : Value) : Option (DataW Value × List MemPlace) := some (.held v, [])

section
variable {P : Program} {k e t : TypeId} {α : Type} [DecidableEq α] (K : KeyEnc P k α)

omit [DecidableEq α] in
theorem KeyEnc.lit_inj {a b : α} (ha : K.W a) (hb : K.W b) (h : K.lit a = K.lit b) : a = b := K.inj a b (K.law.inj (K.key a ha) (by rw [h]; exact K.key b hb))
omit [DecidableEq α] in
theorem KeyEnc.isKey {a : α} (ha : K.W a) : WideAt.IsKeyLit (K.lit a) := K.law.key (K.key a ha)

/-- The keys of entries. -/
def keysE (E : List (α × Value)) : List α := E.map Prod.fst
/-- The element at a key. -/
def getE (E : List (α × Value)) (a : α) : Option Value := (E.find? fun p => decide (p.1 = a)).map Prod.snd
/-- An entry put into a map. -/
def putE (E : List (α × Value)) (a : α) (v : Value) : List (α × Value) := E.filter (fun p => !decide (p.1 = a)) ++ [(a, v)]
/-- An entry taken out of a map. -/
def delE (E : List (α × Value)) (a : α) : List (α × Value) := E.filter (fun p => !decide (p.1 = a))

omit [DecidableEq α] in
theorem mem_keysE {E : List (α × Value)} {b : α} : b ∈ keysE E ↔ ∃ v, (b, v) ∈ E := by
  unfold keysE
  rw [List.mem_map]
  constructor
  · rintro ⟨p, hp, rfl⟩; exact ⟨p.2, hp⟩
  · rintro ⟨v, hv⟩; exact ⟨_, hv, rfl⟩
theorem getE_some {E : List (α × Value)} {a : α} {v : Value} (h : getE E a = some v) : (a, v) ∈ E := by
  unfold getE at h
  obtain ⟨p, h1, h2⟩ := Option.map_eq_some_iff.1 h
  have := List.find?_some h1
  simp only [decide_eq_true_eq] at this
  have hm := List.mem_of_find?_eq_some h1
  rw [← this, ← h2]
  exact hm
theorem getE_none {E : List (α × Value)} {a : α} : getE E a = none ↔ a ∉ keysE E := by
  unfold getE keysE
  rw [Option.map_eq_none_iff, List.find?_eq_none]
  simp only [decide_eq_true_eq, List.mem_map, not_exists, not_and]
theorem getE_of {E : List (α × Value)} (hn : (keysE E).Nodup) {a : α} {v : Value} (h : (a, v) ∈ E) : getE E a = some v := by
  cases hg : getE E a with
  | none => exact absurd (List.mem_map.2 ⟨(a, v), h, rfl⟩) (getE_none.1 hg)
  | some u =>
    have h2 := getE_some hg
    unfold keysE at hn
    obtain ⟨i, hi, e1⟩ := List.getElem_of_mem h
    obtain ⟨j, hj, e2⟩ := List.getElem_of_mem h2
    have : i = j := by
      rw [List.Nodup, List.pairwise_iff_getElem] at hn
      rcases Nat.lt_trichotomy i j with hlt | he | hlt
      · exact absurd (by rw [List.getElem_map, List.getElem_map, e1, e2]) (hn i j (by simpa using hi) (by simpa using hj) hlt)
      · exact he
      · exact absurd (by rw [List.getElem_map, List.getElem_map, e1, e2]) (hn j i (by simpa using hj) (by simpa using hi) hlt)
    subst this
    rw [e1] at e2
    cases e2
    rfl

/-- Block m of w is a map with the entries E (in whatever order). -/
def GMap (w : World) (m : Nat) (E : List (α × Value)) : Prop :=
  ∃ D : DataW Value, w.ownsMap P k heldR m E.length D ∧ (keysE E).Nodup ∧ (∀ p ∈ E, K.W p.1) ∧ Maps.size D = E.length ∧ (∀ a, K.W a → Maps.has D (K.lit a) = decide (a ∈ keysE E)) ∧ ∀ p ∈ E, ∀ z, D.atKey (K.lit p.1) z = .held p.2

variable {K} {w w' : World} {m : Nat} {E : List (α × Value)}
theorem GMap.nodup (h : GMap K w m E) : (keysE E).Nodup := by obtain ⟨D, _, h, _⟩ := h; exact h
theorem GMap.wf (h : GMap K w m E) : ∀ p ∈ E, K.W p.1 := by obtain ⟨D, _, _, h, _⟩ := h; exact h
theorem GMap.lt (h : GMap K w m E) : m < w.heap.size := by obtain ⟨D, h, _⟩ := h; exact h.lt
theorem GMap.isMap (h : GMap K w m E) : ∃ es c, w.heap[m]? = some (.map es c) := by obtain ⟨D, ⟨es, c, hb, _⟩, _⟩ := h; exact ⟨es, c, hb⟩
theorem GMap.block (h : GMap K w m E) (hb : w'.heap[m]? = w.heap[m]?) : GMap K w' m E := by
  obtain ⟨D, ⟨es, c, h1, h2⟩, h3⟩ := h
  exact ⟨D, ⟨es, c, hb.trans h1, h2⟩, h3⟩
theorem GMap.grown (h : GMap K w m E) {row : Option Nat} (hg : w.grownBy w' row) (hne : some m ≠ row) : GMap K w' m E := h.block (hg.block m h.lt hne)
theorem GMap.below (h : GMap K w m E) {B : Nat} (hb : Below B w w') (hm : m < B) : GMap K w' m E := h.block (hb.block m hm)
theorem GMap.made (w : World) : GMap K (w.alloc (.map #[] 0)) w.heap.size [] :=
  ⟨.map [], World.ownsMap_made _ _ _ _, List.nodup_nil, fun p hp => by simp at hp, rfl, fun a _ => by simp [Maps.has, keysE], fun p hp => by simp at hp⟩
/-- The order of the entries does not matter. -/
theorem GMap.perm (h : GMap K w m E) {E' : List (α × Value)} (hp : E.Perm E') : GMap K w m E' := by
  obtain ⟨D, h1, h2, h3, h4, h5, h6⟩ := h
  have hk : (keysE E).Perm (keysE E') := hp.map _
  refine ⟨D, by rw [← hp.length_eq]; exact h1, hk.nodup_iff.1 h2, fun p hp' => h3 p (hp.mem_iff.2 hp'), by rw [← hp.length_eq]; exact h4, fun a ha => ?_, fun p hp' => h6 p (hp.mem_iff.2 hp')⟩
  rw [h5 a ha]
  exact decide_eq_decide.2 hk.mem_iff

/-- 'm[k]' and 'v, ok := m[k]'. -/
theorem GMap.look (h : GMap K w m E) (c : Bool) (ht : P.underlying t = some (.map k e)) {z : Value} (hz : (zeroValue e).run P w = .ok z w) {a : α} (ha : K.W a) :
    (Instr.lookup t (.map (some m)) (K.enc a) c).run P w = .ok (if c then .tuple #[(getE E a).getD z, .bool (getE E a).isSome] else (getE E a).getD z) w := by
  obtain ⟨D, h1, h2, h3, h4, h5, h6⟩ := h
  have hval : D.atKey (K.lit a) (.held z) = .held ((getE E a).getD z) ∧ Maps.has D (K.lit a) = (getE E a).isSome := by
    cases hg : getE E a with
    | none =>
      have hh := h5 a ha
      rw [decide_eq_false (getE_none.1 hg)] at hh
      exact ⟨Maps.atKey_of_not_has hh _, hh⟩
    | some v =>
      have hm := getE_some hg
      refine ⟨h6 (a, v) hm _, ?_⟩
      rw [h5 a ha, decide_eq_true (show a ∈ keysE E from mem_keysE.2 ⟨v, hm⟩)]
      rfl
  cases c with
  | false =>
    obtain ⟨v, ps, hr, hv⟩ := h1.lookup K.law ht hz (zd := .held z) (zp := []) rfl (K.key a ha)
    rw [hval.1] at hv
    unfold heldR at hv
    simp only [Option.some.injEq, Prod.mk.injEq, DataW.held.injEq] at hv
    rw [hr, hv.1]
    rfl
  | true =>
    obtain ⟨v, ps, hr, hv⟩ := h1.look_ok K.law ht hz (zd := .held z) (zp := []) rfl (K.key a ha)
    rw [hval.1] at hv
    unfold heldR at hv
    simp only [Option.some.injEq, Prod.mk.injEq, DataW.held.injEq] at hv
    rw [hr, hv.1, hval.2]
    rfl

theorem keysE_put (E : List (α × Value)) (a : α) (v : Value) : keysE (putE E a v) = keysE (delE E a) ++ [a] := by simp [keysE, putE, delE]
theorem mem_delE {E : List (α × Value)} {a : α} {p : α × Value} : p ∈ delE E a ↔ p ∈ E ∧ p.1 ≠ a := by simp [delE, List.mem_filter]
theorem mem_keysE_del {E : List (α × Value)} {a b : α} : b ∈ keysE (delE E a) ↔ b ∈ keysE E ∧ b ≠ a := by
  rw [mem_keysE, mem_keysE]
  constructor
  · rintro ⟨v, hv⟩
    obtain ⟨h1, h2⟩ := mem_delE.1 hv
    exact ⟨⟨v, h1⟩, h2⟩
  · rintro ⟨⟨v, hv⟩, h2⟩
    exact ⟨v, mem_delE.2 ⟨hv, h2⟩⟩
theorem nodup_del {E : List (α × Value)} (h : (keysE E).Nodup) (a : α) : (keysE (delE E a)).Nodup := by
  unfold keysE delE at *
  exact h.sublist (List.Sublist.map _ List.filter_sublist)
theorem nodup_put {E : List (α × Value)} (h : (keysE E).Nodup) (a : α) (v : Value) : (keysE (putE E a v)).Nodup := by
  rw [keysE_put, List.nodup_append]
  refine ⟨nodup_del h a, by simp, fun x hx y hy => ?_⟩
  rw [List.mem_singleton] at hy
  subst hy
  exact (mem_keysE_del.1 hx).2
theorem len_del {E : List (α × Value)} (h : (keysE E).Nodup) (a : α) : (delE E a).length + (if a ∈ keysE E then 1 else 0) = E.length := by
  induction E with
  | nil => simp [delE, keysE]
  | cons p E ih =>
    have hn : p.1 ∉ keysE E ∧ (keysE E).Nodup := by simpa [keysE] using h
    have ih := ih hn.2
    by_cases hp : p.1 = a
    · subst hp
      have h1 : delE (p :: E) p.1 = delE E p.1 := by simp [delE]
      have h2 : p.1 ∈ keysE (p :: E) := by simp [keysE]
      rw [if_neg hn.1] at ih
      rw [h1, if_pos h2, List.length_cons]
      omega
    · have h1 : delE (p :: E) a = p :: delE E a := by simp [delE, hp]
      have h2 : a ∈ keysE (p :: E) ↔ a ∈ keysE E := by
        simp only [keysE, List.map_cons, List.mem_cons]
        exact ⟨fun h => h.elim (fun e => absurd e.symm hp) id, .inr⟩
      rw [h1, List.length_cons, List.length_cons]
      by_cases h3 : a ∈ keysE E
      · rw [if_pos h3] at ih; rw [if_pos (h2.2 h3)]; omega
      · rw [if_neg h3] at ih; rw [if_neg (fun h => h3 (h2.1 h))]; omega
theorem len_put {E : List (α × Value)} (h : (keysE E).Nodup) (a : α) (v : Value) : (putE E a v).length = if a ∈ keysE E then E.length else E.length + 1 := by
  have := len_del h a
  have h2 : (putE E a v).length = (delE E a).length + 1 := by simp [putE, delE]
  by_cases hm : a ∈ keysE E
  · rw [if_pos hm] at this ⊢; omega
  · rw [if_neg hm] at this ⊢; omega
theorem ownsMap_tight {H : Type} {R : Value → Option (DataW H × List MemPlace)} {n : Nat} {D : DataW H} (h : w.ownsMap P k R m n D) : w.ownsMap P k R m (Maps.size D) D := by
  obtain ⟨es, c, hb, F, hs, rfl⟩ := h
  exact ⟨es, c, hb, F, by simp [Maps.size, length_sorted], rfl⟩
/-- 'm[k] = v'. -/
theorem GMap.store (h : GMap K w m E) (ht : P.underlying t = some (.map k e)) (hn : E.length < maxLen) {a : α} (ha : K.W a) (v : Value) :
    ∃ w', (Instr.mapUpdate t (.map (some m)) (K.enc a) v).run P w = .ok () w' ∧ GMap K w' m (putE E a v) ∧ w.grownBy w' (some m) := by
  obtain ⟨D, h1, h2, h3, h4, h5, h6⟩ := h
  obtain ⟨w', r1, r2, r3⟩ := h1.update K.law ht hn (K.key a ha) (d := .held v) (ps := []) rfl
  have hsz : Maps.size (D.put (K.lit a) (.held v)) = (putE E a v).length := by
    rw [Maps.size_put (h1.tidy K.law), h5 a ha, len_put h2, h4]
    by_cases hm : a ∈ keysE E <;> simp [hm]
  refine ⟨w', r1, ⟨D.put (K.lit a) (.held v), by rw [← hsz]; exact ownsMap_tight r2, nodup_put h2 a v, fun p hp => ?_, hsz, fun b hb => ?_, fun p hp z => ?_⟩, r3⟩
  · unfold putE at hp
    rcases List.mem_append.1 hp with hp | hp
    · exact h3 p (List.mem_filter.1 hp).1
    · rw [List.mem_singleton] at hp; subst hp; exact ha
  · rw [keysE_put]
    by_cases hab : b = a
    · subst hab
      rw [Maps.has_put_same h1.isMap (K.isKey hb)]
      simp
    · rw [Maps.has_put_other (fun e => hab (K.lit_inj hb ha e)), h5 b hb]
      refine decide_eq_decide.2 ?_
      rw [List.mem_append, List.mem_singleton, mem_keysE_del]
      exact ⟨fun h => .inl ⟨h, hab⟩, fun h => h.elim (·.1) (fun e => absurd e hab)⟩
  · unfold putE at hp
    rcases List.mem_append.1 hp with hp | hp
    · obtain ⟨hp1, hp2⟩ := List.mem_filter.1 hp
      have hne : p.1 ≠ a := by simpa using hp2
      rw [Maps.atKey_put_other (fun e => hne (K.lit_inj (h3 p hp1) ha e))]
      exact h6 p hp1 z
    · rw [List.mem_singleton] at hp
      subst hp
      exact Maps.atKey_put_same h1.isMap (K.isKey ha) _ _
/-- 'delete(m, k)'. -/
theorem GMap.drop (h : GMap K w m E) (ht : P.underlying t = some (.map k e)) {a : α} (ha : K.W a) (ty : TypeId) :
    ∃ w', (Builtin.delete_ #[t, k] ty #[.map (some m), K.enc a]).run P w = .ok (.tuple #[]) w' ∧ GMap K w' m (delE E a) ∧ w.grownBy w' (some m) := by
  obtain ⟨D, h1, h2, h3, h4, h5, h6⟩ := h
  obtain ⟨w', r1, r2, r3⟩ := h1.drop K.law ht (K.key a ha) ty
  have hsz : Maps.size (D.del (K.lit a)) = (delE E a).length := by
    have q1 := Maps.size_del (k := K.lit a) (h1.tidy K.law)
    have q2 := len_del h2 a
    rw [h5 a ha, h4] at q1
    by_cases hm : a ∈ keysE E
    · simp only [hm, decide_true, if_true] at q1 q2; omega
    · simp only [hm, decide_false, if_false] at q1 q2; simp at q1; omega
  refine ⟨w', r1, ⟨D.del (K.lit a), by rw [← hsz]; exact ownsMap_tight r2, nodup_del h2 a, fun p hp => h3 p (mem_delE.1 hp).1, hsz, fun b hb => ?_, fun p hp z => ?_⟩, r3.grown⟩
  · by_cases hab : b = a
    · subst hab
      rw [Maps.has_del_same]
      exact (decide_eq_false (fun h => (mem_keysE_del.1 h).2 rfl)).symm
    · rw [Maps.has_del_other (fun e => hab (K.lit_inj hb ha e)), h5 b hb]
      exact decide_eq_decide.2 ⟨fun h => mem_keysE_del.2 ⟨h, hab⟩, fun h => (mem_keysE_del.1 h).1⟩
  · obtain ⟨hp1, hp2⟩ := mem_delE.1 hp
    rw [Maps.atKey_del_other (fun e => hp2 (K.lit_inj (h3 p hp1) ha e))]
    exact h6 p hp1 z
/-- 'len(m)'. -/
theorem GMap.len (h : GMap K w m E) (ht : P.underlying t = some (.map k e)) (ty : TypeId) : (Builtin.len_ #[t] ty #[.map (some m)]).run P w = .ok (.int .i64 E.length) w := by
  obtain ⟨D, h1, h2, h3, h4, h5, h6⟩ := h
  rw [h1.len ht ty, h4]

/-- 'for k, v := range m' under way: the entries that are still to come. -/
def GRng (K : KeyEnc P k α) (w : World) (m r : Nat) (E todo : List (α × Value)) : Prop :=
  ∃ (D : DataW Value) (left : Lit → Bool) (cnt : Nat), w.ranges P k heldR m r E.length D left cnt ∧ (keysE E).Nodup ∧ (∀ p ∈ E, K.W p.1) ∧ Maps.size D = E.length ∧ (∀ a, K.W a → Maps.has D (K.lit a) = decide (a ∈ keysE E)) ∧ (∀ p ∈ E, ∀ z, D.atKey (K.lit p.1) z = .held p.2) ∧
    (keysE todo).Nodup ∧ (∀ p ∈ todo, p ∈ E) ∧ ∀ a, K.W a → left (K.lit a) = decide (a ∈ keysE todo)
variable {r : Nat} {todo : List (α × Value)}
theorem GRng.map (h : GRng K w m r E todo) : GMap K w m E := by
  obtain ⟨D, left, cnt, h1, h2, h3, h4, h5, h6, _⟩ := h
  exact ⟨D, h1.owns, h2, h3, h4, h5, h6⟩
theorem GRng.left (h : GRng K w m r E todo) : (keysE todo).Nodup ∧ ∀ p ∈ todo, p ∈ E := by
  obtain ⟨D, left, cnt, h1, h2, h3, h4, h5, h6, h7, h8, _⟩ := h
  exact ⟨h7, h8⟩
theorem GRng.ne (h : GRng K w m r E todo) : r ≠ m := by obtain ⟨D, left, cnt, h1, _⟩ := h; exact h1.ne
theorem GRng.lt (h : GRng K w m r E todo) : r < w.heap.size := by obtain ⟨D, left, cnt, h1, _⟩ := h; exact h1.lt
theorem GRng.block (h : GRng K w m r E todo) (hm : w'.heap[m]? = w.heap[m]?) (hr : w'.heap[r]? = w.heap[r]?) : GRng K w' m r E todo := by
  obtain ⟨D, left, cnt, ⟨es, clock, since, seen, c0, q1, q2, q3, q4, q5, q6⟩, h2⟩ := h
  exact ⟨D, left, cnt, ⟨es, clock, since, seen, c0, hm.trans q1, q2, q3, q4, hr.trans q5, q6⟩, h2⟩
theorem GRng.grown (h : GRng K w m r E todo) {row : Option Nat} (hg : w.grownBy w' row) (h1 : some m ≠ row) (h2 : some r ≠ row) : GRng K w' m r E todo := h.block (hg.block m h.map.lt h1) (hg.block r h.lt h2)
theorem GRng.left_kept (hm : w'.heap[m]? = w.heap[m]?) (hr : w'.heap[r]? = w.heap[r]?) : w'.rangeLeft m r = w.rangeLeft m r := by
  unfold World.rangeLeft
  rw [hm, hr]
theorem GRng.below (h : GRng K w m r E todo) {B : Nat} (hb : Below B w w') (h1 : m < B) (h2 : r < B) : GRng K w' m r E todo := h.block (hb.block m h1) (hb.block r h2)
/-- 'range m'. -/
theorem GMap.range (h : GMap K w m E) (ht : P.underlying t = some (.map k e)) :
    ∃ w', (Instr.range t (.map (some m))).run P w = .ok (.pointer (some ⟨w.heap.size, 0, none⟩)) w' ∧ GRng K w' m w.heap.size E E ∧ w.grownBy w' none ∧ w'.heap.size = w.heap.size + 1 := by
  obtain ⟨D, h1, h2, h3, h4, h5, h6⟩ := h
  obtain ⟨w', r1, r2, r3, r4⟩ := h1.range K.law ht
  exact ⟨w', r1, ⟨D, _, _, r2, h2, h3, h4, h5, h6, h2, fun p hp => hp, h5⟩, r3, r4⟩
/-- The step. -/
theorem GRng.next (h : GRng K w m r E todo) (ty : TypeId) :
    (todo = [] ∧ (Instr.next (.pointer (some ⟨r, 0, none⟩)) false ty).run P w = .ok (.tuple #[.bool false]) w) ∨
    ∃ a v w', (a, v) ∈ todo ∧ (Instr.next (.pointer (some ⟨r, 0, none⟩)) false ty).run P w = .ok (.tuple #[.bool true, K.enc a, v]) w' ∧ GRng K w' m r E (delE todo a) ∧ w'.rangeLeft m r < w.rangeLeft m r ∧ w.grownBy w' (some r) ∧ w'.heap.size = w.heap.size ∧
      (Instr.entry (.pointer (some ⟨r, 0, none⟩))).run P w' = .ok (.tuple #[K.enc a, v]) w' := by
  obtain ⟨D, left, cnt, h1, h2, h3, h4, h5, h6, h7, h8, h9⟩ := h
  rcases h1.next K.law ty with ⟨_, h0, hr⟩ | ⟨key, v, kl, y, w', cnt', q1, q2, q3, q4, q5, q6, q7, q8, q9, q10⟩
  · refine .inl ⟨?_, hr⟩
    cases todo with
    | nil => rfl
    | cons p l =>
      have := h9 p.1 (h3 p (h8 p (by simp)))
      rw [h0] at this
      simp [keysE] at this
  · refine .inr ?_
    obtain ⟨a, ha, rfl⟩ := K.inv key kl q1
    have hkl : kl = K.lit a := by rw [K.key a ha] at q1; exact (Option.some.inj q1).symm
    subst hkl
    rw [h9 a ha, decide_eq_true_eq] at q2
    obtain ⟨u, hu⟩ := mem_keysE.1 q2
    have hv : v = u := by
      have e1 := q4 (.held (.bool true))
      rw [h6 (a, u) (h8 _ hu)] at e1
      unfold heldR at q3
      cases q3
      cases e1
      rfl
    subst hv
    refine ⟨a, v, w', hu, q5, ⟨D, _, _, q6, h2, h3, h4, h5, h6, nodup_del h7 a, fun p hp => h8 p (mem_delE.1 hp).1, fun b hb => ?_⟩, ?_, q8, q9, q10⟩
    · by_cases hab : b = a
      · subst hab
        have : (K.lit b).sameKey (K.lit b) = true := WideAt.sameKey_self (K.isKey hb)
        rw [this, decide_eq_false (fun h => (mem_keysE_del.1 h).2 rfl)]
        simp
      · have : (K.lit b).sameKey (K.lit a) = false := by
          cases hs : (K.lit b).sameKey (K.lit a)
          · rfl
          · exact absurd (K.lit_inj hb ha (WideAt.sameKey_eq hs)) hab
        rw [this, h9 b hb]
        simp only [Bool.not_false, Bool.and_true]
        exact decide_eq_decide.2 ⟨fun h => mem_keysE_del.2 ⟨h, hab⟩, fun h => (mem_keysE_del.1 h).1⟩
    · rw [q6.left_eq, h1.left_eq]
      exact q7
end

/-! ### At the operation -/
section
variable {P : Program} {k : TypeId} {α : Type} [DecidableEq α] {K : KeyEnc P k α} {w : World} {ops : Array Oper} {rest : List Oper} {o : Oper} {a : Act} {Q : Exit → Act → World → Prop} {m : Nat} {E : List (α × Value)}
theorem wpList_glook (hg : o.guard = none) (mo x : Operand) (t : TypeId) (hop : o.op = Op.lookup t mo x false) (e : TypeId) (ht : P.underlying t = some (.map k e)) {z : Value} (hz : (zeroValue e).run P w = .ok z w)
    (hm : a.eval mo = .map (some m)) (h : GMap K w m E) (b : α) (hb : K.W b) (hx : a.eval x = K.enc b)
    (hK : wpList P ops Q rest (a.put o.dst ((getE E b).getD z)) w) : wpList P ops Q (o :: rest) a w := by
  refine wpList_plain hg fun K' hK' => ?_
  have hrun := h.look false ht hz hb
  unfold Oper.wp
  simp only [Bool.false_eq_true, if_false] at hrun
  simp [execOp, hop, hm, hx, hrun, Result.andThen]
  exact hK' _ _ hK
theorem wpList_glook_ok (hg : o.guard = none) (mo x : Operand) (t : TypeId) (hop : o.op = Op.lookup t mo x true) (e : TypeId) (ht : P.underlying t = some (.map k e)) {z : Value} (hz : (zeroValue e).run P w = .ok z w)
    (hm : a.eval mo = .map (some m)) (h : GMap K w m E) (b : α) (hb : K.W b) (hx : a.eval x = K.enc b)
    (hK : wpList P ops Q rest (a.put o.dst (.tuple #[(getE E b).getD z, .bool (getE E b).isSome])) w) : wpList P ops Q (o :: rest) a w := by
  refine wpList_plain hg fun K' hK' => ?_
  have hrun := h.look true ht hz hb
  unfold Oper.wp
  simp only [if_true] at hrun
  simp [execOp, hop, hm, hx, hrun, Result.andThen]
  exact hK' _ _ hK
theorem wpList_gput (hg : o.guard = none) (mo x v : Operand) (t : TypeId) (hop : o.op = Op.mapUpdate t mo x v) (e : TypeId) (ht : P.underlying t = some (.map k e))
    (hm : a.eval mo = .map (some m)) (h : GMap K w m E) (hn : E.length < maxLen) (b : α) (hb : K.W b) (hx : a.eval x = K.enc b) (u : Value) (hv : a.eval v = u)
    (hK : ∀ w', GMap K w' m (putE E b u) → w.grownBy w' (some m) → wpList P ops Q rest (a.put o.dst undef) w') : wpList P ops Q (o :: rest) a w := by
  refine wpList_plain hg fun K' hK' => ?_
  obtain ⟨w', hrun, r1, r2⟩ := h.store ht hn hb u
  unfold Oper.wp
  simp [execOp, hop, hm, hx, hv, hrun, Result.andThen]
  exact hK' _ _ (hK w' r1 r2)
theorem wpList_glen (hg : o.guard = none) (mo : Operand) (t : TypeId) (hop : o.op = Op.call { callee := Callee.builtin Builtin.len, args := #[mo], argTypes := #[t] }) (e : TypeId) (ht : P.underlying t = some (.map k e))
    (hm : a.eval mo = .map (some m)) (h : GMap K w m E) (hK : wpList P ops Q rest (a.put o.dst (.int .i64 E.length)) w) : wpList P ops Q (o :: rest) a w := by
  refine wpList_plain hg fun K' hK' => ?_
  unfold Oper.wp
  simp [execOp, hop, resolve, invoke, builtin, hm, h.len ht o.type, Result.andThen]
  exact hK' _ _ hK
theorem wpList_gdel (hg : o.guard = none) (mo x : Operand) (t : TypeId) (hop : o.op = Op.call { callee := Callee.builtin Builtin.delete, args := #[mo, x], argTypes := #[t, k] }) (e : TypeId) (ht : P.underlying t = some (.map k e))
    (hm : a.eval mo = .map (some m)) (h : GMap K w m E) (b : α) (hb : K.W b) (hx : a.eval x = K.enc b)
    (hK : ∀ w', GMap K w' m (delE E b) → w.grownBy w' (some m) → wpList P ops Q rest (a.put o.dst (.tuple #[])) w') : wpList P ops Q (o :: rest) a w := by
  refine wpList_plain hg fun K' hK' => ?_
  obtain ⟨w', hrun, r1, r2⟩ := h.drop ht hb o.type
  unfold Oper.wp
  simp [execOp, hop, resolve, invoke, builtin, hm, hx, hrun, Result.andThen]
  exact hK' _ _ (hK w' r1 r2)
theorem wpList_grange (hg : o.guard = none) (mo : Operand) (t : TypeId) (hop : o.op = Op.range t mo) (e : TypeId) (ht : P.underlying t = some (.map k e)) (hm : a.eval mo = .map (some m)) (h : GMap K w m E)
    (hK : ∀ w', GRng K w' m w.heap.size E E → w.grownBy w' none → w'.heap.size = w.heap.size + 1 → wpList P ops Q rest (a.put o.dst (.pointer (some ⟨w.heap.size, 0, none⟩))) w') : wpList P ops Q (o :: rest) a w := by
  refine wpList_plain hg fun K' hK' => ?_
  obtain ⟨w', hrun, r1, r2, r3⟩ := h.range ht
  unfold Oper.wp
  simp [execOp, hop, hm, hrun, Result.andThen]
  exact hK' _ _ (hK w' r1 r2 r3)
theorem wpList_gnext {r : Nat} {todo : List (α × Value)} (hg : o.guard = none) (it : Operand) (hop : o.op = Op.next it false) (hit : a.eval it = .pointer (some ⟨r, 0, none⟩)) (h : GRng K w m r E todo)
    (hDone : todo = [] → wpList P ops Q rest (a.put o.dst (.tuple #[.bool false])) w)
    (hMore : ∀ (x : α) (v : Value) (w' : World), (x, v) ∈ todo → GRng K w' m r E (delE todo x) → w'.rangeLeft m r < w.rangeLeft m r → w.grownBy w' (some r) → w'.heap.size = w.heap.size →
      (Instr.entry (.pointer (some ⟨r, 0, none⟩))).run P w' = .ok (.tuple #[K.enc x, v]) w' → wpList P ops Q rest (a.put o.dst (.tuple #[.bool true, K.enc x, v])) w') :
    wpList P ops Q (o :: rest) a w := by
  refine wpList_plain hg fun K' hK' => ?_
  unfold Oper.wp
  rcases h.next o.type with ⟨h0, hrun⟩ | ⟨x, v, w', q1, hrun, q2, q3, q4, q5, q6⟩
  · simp [execOp, hop, hit, hrun, Result.andThen]
    exact hK' _ _ (hDone h0)
  · simp [execOp, hop, hit, hrun, Result.andThen]
    exact hK' _ _ (hMore x v w' q1 q2 q3 q4 q5 q6)
end

end Go.Proofs.YtegghimjmbgghaaGreat
