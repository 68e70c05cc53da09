/-
  'm[k] = append(m[k], x)'; the records that count by their cases.
-/
import Derived.Test.YtegghimjmbgghaaGreatBkI
import Derived.WideKeyEntry
set_option linter.unusedSimpArgs false
set_option linter.unusedVariables false
namespace Go.Proofs.YtegghimjmbgghaaGreat
open Go.RowKit Go.Shelf Go.ChangeMaps Go.MapKept

/-! ### An entry that is about to be stored -/
section
variable {P : Program} {k e t : TypeId} {α : Type} [DecidableEq α] {K : KeyEnc P k α}
/-- The place of a key in a map is taken; what is stored there gives the map with it. -/
def GPend (K : KeyEnc P k α) (t : TypeId) (w1 : World) (m : Nat) (E : List (α × Value)) (a : α) (st : Nat) : Prop :=
  ∃ es1 c1, w1.heap[m]? = some (.map es1 c1) ∧ ∀ (w2 : World) (val : Value), w2.heap[m]? = some (.map es1 c1) → ∃ w3, (Instr.entryStore t (.map (some m)) (.int .i64 st) val).run P w2 = .ok () w3 ∧ GMap K w3 m (putE E a val) ∧ w2.grownBy w3 (some m)
variable {w w' : World} {m : Nat} {E : List (α × Value)}
theorem GPend.block {a : α} {st : Nat} (h : GPend K t w m E a st) (hb : w'.heap[m]? = w.heap[m]?) : GPend K t w' m E a st := by
  obtain ⟨es1, c1, h1, h2⟩ := h
  exact ⟨es1, c1, hb.trans h1, h2⟩
theorem GPend.lt {a : α} {st : Nat} (h : GPend K t w m E a st) : m < w.heap.size := by
  obtain ⟨es1, c1, h1, h2⟩ := h
  exact (Array.getElem?_eq_some_iff.1 h1).1
theorem GPend.isMap {a : α} {st : Nat} (h : GPend K t w m E a st) : ∃ es c, w.heap[m]? = some (.map es c) := by
  obtain ⟨es1, c1, h1, h2⟩ := h
  exact ⟨_, _, h1⟩
theorem setBlock_grown (w : World) {m : Nat} {o : Obj} (h : w.heap[m]? = some o) (o' : Obj) : w.grownBy (setBlock w m o') (some m) := by
  refine ⟨rfl, rfl, rfl, by simp [setBlock], fun i _ hi => ?_⟩
  exact (heap_set (o' := o') h).2 i (fun e => hi (by rw [e]))
theorem GMap.entry (h : GMap K w m E) (KL : WideMaps.KeyLaw P k) (ht : P.underlying t = some (.map k e)) {z : Value} (hz : ∀ u : World, (zeroValue e).run P u = .ok z u) (hn : E.length < maxLen) {a : α} (ha : K.W a) :
    ∃ (w1 : World) (st : Nat), (Instr.mapEntry t (.map (some m)) (K.enc a)).run P w = .ok (.tuple #[(getE E a).getD z, .int .i64 st]) w1 ∧ GPend K t w1 m E a st ∧ w.grownBy w1 (some m) ∧ w1.heap.size = w.heap.size := by
  have hlook := h.look false ht (hz w) ha
  have hst := fun v => h.store ht hn ha v
  obtain ⟨D, ⟨es, clock, hb, F, _, _⟩, _⟩ := h
  obtain ⟨v0, st, es1, clock1, r1, r2, r3⟩ := WideElems.entry_then_store KL ht hz hb F (K.key a ha)
  have hv : v0 = (getE E a).getD z := by
    have hnd : es.toList.Pairwise (fun x y => x.key ≠ y.key) := ((stamped_iff es clock).1 F.stamped).2.2
    rcases KL.find w (K.key a ha) es.toList F.keys with ⟨h1, h2⟩ | ⟨j, e0, h1, h2, h3⟩
    · have hl : (Instr.lookup t (.map (some m)) (K.enc a) false).run P w = .ok z w := by
        simp [Instr.lookup, run_underlying ht, MapKept.run_getObj_map hb, KL.check w _ (K.key a ha), h1, hz, Result.andThen]
      rw [hl] at hlook
      rcases r2 with ⟨e1, he1, hk1, -⟩ | ⟨-, hv⟩
      · exact absurd hk1 (h2 e1 he1)
      · rw [hv]; simpa using hlook
    · have hl : (Instr.lookup t (.map (some m)) (K.enc a) false).run P w = .ok e0.val w := by
        simp [Instr.lookup, run_underlying ht, MapKept.run_getObj_map hb, KL.check w _ (K.key a ha), h1, Result.andThen]
      rw [hl] at hlook
      rcases r2 with ⟨e1, he1, hk1, hv⟩ | ⟨hno, -⟩
      · have : e1 = e0 := entry_eq_of_key hnd he1 (List.mem_of_getElem? h2) (hk1.trans h3.symm)
        rw [hv, this]; simpa using hlook
      · exact absurd h3 (hno e0 (List.mem_of_getElem? h2))
  subst hv
  refine ⟨_, st, r1, ⟨es1, clock1, (heap_set hb).1, fun w2 val hw2 => ?_⟩, setBlock_grown w hb _, by simp [setBlock]⟩
  obtain ⟨es', clock', q1, q2⟩ := r3 w2 val hw2
  obtain ⟨w', s1, s2, -⟩ := hst val
  rw [q2] at s1
  have hw' : w' = setBlock w m (.map es' clock') := by injection s1 with _ h; exact h.symm
  subst hw'
  exact ⟨_, q1, s2.block (by show (w2.heap.setIfInBounds m _)[m]? = (w.heap.setIfInBounds m _)[m]?; rw [(heap_set hw2).1, (heap_set hb).1]), setBlock_grown w2 hw2 _⟩
theorem wpList_gentry {ops : Array Oper} {rest : List Oper} {o : Oper} {a : Act} {Q : Exit → Act → World → Prop} (hg : o.guard = none) (mo x : Operand) (hop : o.op = Op.mapEntry t mo x) (KL : WideMaps.KeyLaw P k) (ht : P.underlying t = some (.map k e)) {z : Value} (hz : ∀ u : World, (zeroValue e).run P u = .ok z u)
    (hm : a.eval mo = .map (some m)) (h : GMap K w m E) (hn : E.length < maxLen) (b : α) (hb : K.W b) (hx : a.eval x = K.enc b)
    (hK : ∀ (w' : World) (st : Nat), GPend K t w' m E b st → w.grownBy w' (some m) → w'.heap.size = w.heap.size → wpList P ops Q rest (a.put o.dst (.tuple #[(getE E b).getD z, .int .i64 st])) w') : wpList P ops Q (o :: rest) a w := by
  refine wpList_plain hg fun K' hK' => ?_
  obtain ⟨w1, st, hrun, r1, r2, r3⟩ := h.entry KL ht hz hn hb
  unfold Oper.wp
  simp [execOp, hop, hm, hx, hrun, Result.andThen]
  exact hK' _ _ (hK w1 st r1 r2 r3)
theorem wpList_gestore {ops : Array Oper} {rest : List Oper} {o : Oper} {a : Act} {Q : Exit → Act → World → Prop} (hg : o.guard = none) (mo s v : Operand) (hop : o.op = Op.entryStore t mo s v) (b : α) (st : Nat) (h : GPend K t w m E b st)
    (hm : a.eval mo = .map (some m)) (hs : a.eval s = .int .i64 st) (u : Value) (hv : a.eval v = u)
    (hK : ∀ w', GMap K w' m (putE E b u) → w.grownBy w' (some m) → wpList P ops Q rest (a.put o.dst undef) w') : wpList P ops Q (o :: rest) a w := by
  refine wpList_plain hg fun K' hK' => ?_
  obtain ⟨es1, c1, h1, h2⟩ := h
  obtain ⟨w3, hrun, r1, r2⟩ := h2 w u h1
  unfold Oper.wp
  simp [execOp, hop, hm, hs, hv, hrun, Result.andThen]
  exact hK' _ _ (hK w3 r1 r2)
end

/-! ### The cases of records -/
set_option maxRecDepth 100000 in
theorem cs_keyLaw : WideMaps.KeyLaw Tryz.prog 116 := deep_law (m := 4) (show (4 : Nat) + 1 ≤ 10000 by omega) cs_deep cs_tiled cs_wide
/-- The entries of a map of slices: each case that occurs with its records in their order, each slice in a row of its own. -/
structure CsE (w : World) (base : Nat) (E : List ((Int × Int) × Value)) (l : List Rc) : Prop where
  own : ∀ p ∈ E, w.ownsRow base 82 14 p.2 (l.filter (csB p.1.1 p.1.2)).length (recs (l.filter (csB p.1.1 p.1.2)))
  all : ∀ r ∈ l, (r.sign, r.fld) ∈ keysE E
  is : ∀ p ∈ E, ∃ r ∈ l, r.sign = p.1.1 ∧ r.fld = p.1.2
  apart : ∀ p ∈ E, ∀ q ∈ E, p.1 ≠ q.1 → Apart p.2 q.2
  len : E.length ≤ l.length
theorem csE_nil (w : World) (base : Nat) : CsE w base [] [] := ⟨fun p hp => by simp at hp, fun r hr => by simp at hr, fun p hp => by simp at hp, fun p hp => by simp at hp, Nat.le_refl _⟩
theorem own_map {w w' : World} {base e size n : Nat} {v : Value} {xs : List Value} (h : w.ownsRow base e size v n xs) {m : Nat} (hm : ∃ es c, w.heap[m]? = some (.map es c)) (hg : w.grownBy w' (some m)) : w'.ownsRow base e size v n xs := by
  refine ⟨h.1, h.2.imp id (fun ⟨g, cap, cur, h1, h2, h3, h4⟩ => ⟨g, cap, cur, h1, h2, (hg.block g (Array.getElem?_eq_some_iff.1 h3).1 (fun e => ?_)).trans h3, h4⟩)⟩
  obtain ⟨es, c, h5⟩ := hm
  have e' := Option.some.inj e
  subst e'
  rw [h3] at h5
  cases h5
theorem CsE.map {w w' : World} {base : Nat} {E : List ((Int × Int) × Value)} {l : List Rc} (h : CsE w base E l) {m : Nat} (hm : ∃ es c, w.heap[m]? = some (.map es c)) (hg : w.grownBy w' (some m)) : CsE w' base E l :=
  ⟨fun p hp => own_map (h.own p hp) hm hg, h.all, h.is, h.apart, h.len⟩
theorem CsE.below {w w' : World} {base : Nat} {E : List ((Int × Int) × Value)} {l : List Rc} (h : CsE w base E l) (hb : Below w.heap.size w w') : CsE w' base E l :=
  ⟨fun p hp => own_below (h.own p hp) hb, h.all, h.is, h.apart, h.len⟩
/-- The slice at a case. -/
theorem CsE.get {w : World} {base : Nat} {E : List ((Int × Int) × Value)} {l : List Rc} (h : CsE w base E l) (hn : (keysE E).Nodup) (c : Int × Int) :
    w.ownsRow base 82 14 ((getE E c).getD (.slice none 0 0)) (l.filter (csB c.1 c.2)).length (recs (l.filter (csB c.1 c.2))) ∧ ∀ p ∈ E, p.1 ≠ c → Apart ((getE E c).getD (.slice none 0 0)) p.2 := by
  cases hg : getE E c with
  | none =>
    have hno := getE_none.1 hg
    have : l.filter (csB c.1 c.2) = [] := by
      refine List.filter_eq_nil_iff.2 fun r hr hc => hno ?_
      simp only [csB, Bool.and_eq_true, decide_eq_true_eq] at hc
      have := h.all r hr
      rwa [show (r.sign, r.fld) = c from Prod.ext hc.1 hc.2] at this
    rw [this]
    exact ⟨World.ownsRow_nil _ _ _ _, fun p _ _ => apart_nil _⟩
  | some v =>
    have hm := getE_some hg
    exact ⟨h.own (c, v) hm, fun p hp hne => h.apart (c, v) hm p hp (fun e => hne e.symm)⟩
theorem filter_snoc_yes {α : Type} {l : List α} {p : α → Bool} {x : α} (h : p x = true) : (l ++ [x]).filter p = l.filter p ++ [x] := by simp [h]
theorem filter_snoc_no {α : Type} {l : List α} {p : α → Bool} {x : α} (h : p x = false) : (l ++ [x]).filter p = l.filter p := by simp [h]
theorem csB_self (x : Rc) : csB x.sign x.fld x = true := by simp [csB]
theorem csB_ne {x : Rc} {c : Int × Int} (h : c ≠ (x.sign, x.fld)) : csB c.1 c.2 x = false := by
  cases hb : csB c.1 c.2 x
  · rfl
  · simp only [csB, Bool.and_eq_true, decide_eq_true_eq] at hb
    exact absurd (Prod.ext hb.1.symm hb.2.symm) h
/-- A record put to its case. -/
theorem CsE.put {w w1 w2 w3 : World} {base m : Nat} {E : List ((Int × Int) × Value)} {l : List Rc} {x : Rc} {v' : Value} {tmp : Obj} (h : CsE w base E l) (hn : (keysE E).Nodup) (hb : base ≤ w.heap.size) (hm : ∃ es c, w.heap[m]? = some (.map es c))
    (hown : w2.ownsRow base 82 14 v' ((l.filter (csB x.sign x.fld)).length + 1) (recs (l.filter (csB x.sign x.fld)) ++ rcC x))
    (hg : (w.alloc tmp).grownBy w1 (some m)) (hg2 : w1.grownBy w2 ((getE E (x.sign, x.fld)).getD (.slice none 0 0)).ownBlock) (hat : v'.ownBlock = ((getE E (x.sign, x.fld)).getD (.slice none 0 0)).ownBlock ∨ v'.ownBlock = some w1.heap.size)
    (hm2 : ∃ es c, w2.heap[m]? = some (.map es c)) (hg3 : w2.grownBy w3 (some m)) : CsE w3 base (putE E (x.sign, x.fld) v') (l ++ [x]) := by
  have hm0 : ∃ es c, (w.alloc tmp).heap[m]? = some (.map es c) := by
    obtain ⟨es, c, h1⟩ := hm
    exact ⟨es, c, ((below_alloc w tmp).block m (Array.getElem?_eq_some_iff.1 h1).1).trans h1⟩
  have h1 := (h.below (below_alloc w tmp)).map hm0 hg
  have hget := h1.get hn (x.sign, x.fld)
  have keep : ∀ p ∈ E, p.1 ≠ (x.sign, x.fld) → w3.ownsRow base 82 14 p.2 (l.filter (csB p.1.1 p.1.2)).length (recs (l.filter (csB p.1.1 p.1.2))) := by
    intro p hp hne
    refine own_map ((h1.own p hp).kept hg2 ?_) hm2 hg3
    cases hub : p.2.ownBlock with
    | none => exact .inl rfl
    | some g => exact .inr (fun e => hget.2 p hp hne g e.symm hub)
  refine ⟨fun p hp => ?_, fun r hr => ?_, fun p hp => ?_, fun p hp q hq hne => ?_, ?_⟩
  · unfold putE at hp
    rcases List.mem_append.1 hp with hp | hp
    · obtain ⟨hp1, hp2⟩ := List.mem_filter.1 hp
      have hne : p.1 ≠ (x.sign, x.fld) := by simpa using hp2
      rw [filter_snoc_no (csB_ne hne)]
      exact keep p hp1 hne
    · rw [List.mem_singleton] at hp
      subst hp
      rw [filter_snoc_yes (csB_self x), List.length_append, recs_append, recs_one]
      exact own_map hown hm2 hg3
  · rw [keysE_put, List.mem_append, List.mem_singleton]
    by_cases e : (r.sign, r.fld) = (x.sign, x.fld)
    · exact .inr e
    · rcases List.mem_append.1 hr with hr | hr
      · exact .inl (mem_keysE_del.2 ⟨h.all r hr, e⟩)
      · rw [List.mem_singleton] at hr; subst hr; exact absurd rfl e
  · unfold putE at hp
    rcases List.mem_append.1 hp with hp | hp
    · obtain ⟨r, hr, h2⟩ := h.is p (List.mem_filter.1 hp).1
      exact ⟨r, List.mem_append_left _ hr, h2⟩
    · rw [List.mem_singleton] at hp
      subst hp
      exact ⟨x, by simp, rfl, rfl⟩
  · have fresh : ∀ p ∈ E, p.1 ≠ (x.sign, x.fld) → Apart v' p.2 := by
      intro p hp hne g h1' h2'
      rcases hat with h3 | h3
      · exact hget.2 p hp hne g (h3 ▸ h1') h2'
      · rw [h3] at h1'
        have := own_block_lt (h1.own p hp) h2'
        have h3 := Option.some.inj h1'
        omega
    unfold putE at hp hq
    rcases List.mem_append.1 hp with hp | hp <;> rcases List.mem_append.1 hq with hq | hq
    · exact h.apart p (List.mem_filter.1 hp).1 q (List.mem_filter.1 hq).1 hne
    · rw [List.mem_singleton] at hq; subst hq
      exact (fresh p (List.mem_filter.1 hp).1 (by simpa using (List.mem_filter.1 hp).2)).symm
    · rw [List.mem_singleton] at hp; subst hp
      exact fresh q (List.mem_filter.1 hq).1 (by simpa using (List.mem_filter.1 hq).2)
    · rw [List.mem_singleton] at hp hq; subst hp; subst hq
      exact absurd rfl hne
  · have h1 := len_put hn (x.sign, x.fld) v'
    have h2 := h.len
    rw [List.length_append, h1]
    simp only [List.length_singleton]
    split <;> omega


/-! ### cases -/
def CasesPost (w : World) (S : List Rc) (e : Ending) (w' : World) : Prop :=
  ∃ (mm : Nat) (E : List ((Int × Int) × Value)) (L : List Rc), e = .returned (.map (some mm)) ∧ GMap caseK w' mm E ∧ CsE w' w.heap.size E (cntL L) ∧ L.Perm S ∧ Asc L ∧ w.heap.size ≤ mm ∧ Below w.heap.size w w'
/-- A slice that reads so and lies below N. -/
def RdB (N : Nat) (w : World) (A : Option Addr) (xs : List Value) : Prop :=
  xs ≠ [] → ∃ b off, A = some ⟨b, off, none⟩ ∧ b < N ∧ b < w.heap.size ∧ ∀ j u, xs[j]? = some u → w.cell? ⟨b, off + j, none⟩ = some u
theorem RdB.of {w : World} {A : Option Addr} {xs : List Value} (h : Rd w A xs) : RdB w.heap.size w A xs := fun hx => by
  obtain ⟨b, off, h1, h2, h3⟩ := h hx
  exact ⟨b, off, h1, h2, h2, h3⟩
theorem RdB.rd {N : Nat} {w : World} {A : Option Addr} {xs : List Value} (h : RdB N w A xs) : Rd w A xs := fun hx => by
  obtain ⟨b, off, h1, h2, h3, h4⟩ := h hx
  exact ⟨b, off, h1, h3, h4⟩
theorem RdB.grown {N : Nat} {w w' : World} {A : Option Addr} {xs : List Value} (h : RdB N w A xs) {row : Option Nat} (hg : w.grownBy w' row) (hr : ∀ j, row = some j → N ≤ j ∨ ∃ es c, w.heap[j]? = some (.map es c)) : RdB N w' A xs := fun hx => by
  obtain ⟨b, off, h1, h2, h3, h4⟩ := h hx
  refine ⟨b, off, h1, h2, Nat.lt_of_lt_of_le h3 hg.size, fun j u hu => ?_⟩
  have hc := h4 j u hu
  rw [World.cell?_of_block (a := ⟨b, off + j, none⟩) (hg.block b h3 (fun e => ?_))]
  · exact hc
  · rcases hr b e.symm with h | ⟨es, c, hm⟩
    · omega
    · simp [World.cell?, hm] at hc
theorem rc_news_at {x : Rc} {W1 w2 : World} {Z m : Nat} (h : W1.heap[Z]? = some (.cells (rcA x) 82 (0, 0))) (hm : ∃ es c, W1.heap[m]? = some (.map es c)) (hg : W1.grownBy w2 (some m)) :
    ∀ j u, (rcC x)[j]? = some u → w2.cell? ((⟨Z, 0, none⟩ : Addr).add j) = some u := by
  intro j u hu
  have hZ : w2.heap[Z]? = some (.cells (rcA x) 82 (0, 0)) := (hg.block Z (Array.getElem?_eq_some_iff.1 h).1 (fun e => by
    obtain ⟨es, c, h2⟩ := hm
    have := Option.some.inj e
    subst this
    rw [h] at h2
    cases h2)).trans h
  rw [add_at, Nat.zero_add, cell_of_row _ _ j _ _ _ hZ, ← hu, ← Array.getElem?_toList]
  rfl
theorem GPend.append {P : Program} {k t : TypeId} {α : Type} [DecidableEq α] {K : KeyEnc P k α} {w w' : World} {m : Nat} {E : List (α × Value)} {a : α} {st base e size n : Nat} {v : Value} {xs : List Value} (h : GPend K t w m E a st) (hv : w.ownsRow base e size v n xs) (hg : w.grownBy w' v.ownBlock) : GPend K t w' m E a st := by
  obtain ⟨es, c, hm⟩ := h.isMap
  refine h.block (hg.block m h.lt (fun e => ?_))
  rcases hv.2 with ⟨h2, _⟩ | ⟨g, cap, cur, h2, _, h3, _⟩
  · rw [h2] at e; simp [Value.ownBlock] at e
  · rw [h2] at e
    have : m = g := by simpa [Value.ownBlock] using e
    subst this
    rw [hm] at h3
    cases h3
/-- How far cases has come. -/
structure CasI (wS w3 : World) (mm : Nat) (A : Option Addr) (C : List Rc) (k : Nat) (w : World) : Prop where
  e : ∃ E, GMap caseK w mm E ∧ CsE w w3.heap.size E (C.take k)
  b : Below wS.heap.size wS w
  s : w3.heap.size ≤ w.heap.size
  rd : RdB w3.heap.size w A (recs C)
  lo : wS.heap.size ≤ mm ∧ wS.heap.size ≤ w3.heap.size
theorem CasI.below {wS w3 w w' : World} {mm : Nat} {A : Option Addr} {C : List Rc} {k : Nat} (h : CasI wS w3 mm A C k w) (hb : Below w.heap.size w w') : CasI wS w3 mm A C k w' := by
  obtain ⟨E, h1, h2⟩ := h.e
  exact ⟨⟨E, h1.below hb h1.lt, h2.below hb⟩, h.b.trans (hb.mono h.b.size), Nat.le_trans h.s hb.size, h.rd.grown (grown_of_below hb none) (fun j e => by cases e), h.lo⟩
/-- A record put to its case. -/
theorem CasI.put {wS w3 w wa w1 w2 w' : World} {mm : Nat} {A : Option Addr} {C : List Rc} {k : Nat} {x : Rc} {v' : Value} {tmp : Obj} {E : List ((Int × Int) × Value)} (h : CasI wS w3 mm A C k w) (hk : k < C.length) (hx : C[k] = x) (hE1 : GMap caseK w mm E) (hE2 : CsE w w3.heap.size E (C.take k)) (ha : wa = w.alloc tmp)
    (hg : wa.grownBy w1 (some mm)) (hp : GPend caseK 117 w1 mm E (x.sign, x.fld) 0 ∨ ∃ es c, w1.heap[mm]? = some (.map es c))
    (hown : w2.ownsRow w3.heap.size 82 14 v' (((C.take k).filter (csB x.sign x.fld)).length + 1) (recs ((C.take k).filter (csB x.sign x.fld)) ++ rcC x))
    (hg2 : w1.grownBy w2 ((getE E (x.sign, x.fld)).getD (.slice none 0 0)).ownBlock) (hat : v'.ownBlock = ((getE E (x.sign, x.fld)).getD (.slice none 0 0)).ownBlock ∨ v'.ownBlock = some w1.heap.size)
    (hm' : GMap caseK w' mm (putE E (x.sign, x.fld) v')) (hg3 : w2.grownBy w' (some mm)) : CasI wS w3 mm A C (k + 1) w' := by
  subst ha
  have hmap1 : ∃ es c, w1.heap[mm]? = some (.map es c) := by
    rcases hp with hp | hp
    · exact hp.isMap
    · exact hp
  have hmap0 := hE1.isMap
  have hmapA : ∃ es c, (w.alloc tmp).heap[mm]? = some (.map es c) := by
    obtain ⟨es, c, h1⟩ := hmap0
    exact ⟨es, c, ((below_alloc w tmp).block mm (Array.getElem?_eq_some_iff.1 h1).1).trans h1⟩
  have hCA := (hE2.below (below_alloc w tmp)).map hmapA hg
  have hget := hCA.get hE1.nodup (x.sign, x.fld)
  have hv0 : ∀ j, ((getE E (x.sign, x.fld)).getD (.slice none 0 0)).ownBlock = some j → w3.heap.size ≤ j := fun j hj => (own_block_lt hget.1 hj).1
  have hmap2 : ∃ es c, w2.heap[mm]? = some (.map es c) := by
    obtain ⟨es, c, h1⟩ := hmap1
    refine ⟨es, c, (hg2.block mm (Array.getElem?_eq_some_iff.1 h1).1 (fun e => ?_)).trans h1⟩
    rcases hget.1.2 with ⟨h2, _⟩ | ⟨g, cap, cur, h2, _, h3, _⟩
    · rw [h2] at e; simp [Value.ownBlock] at e
    · rw [h2] at e
      have : mm = g := by simpa [Value.ownBlock] using e
      subst this
      rw [h1] at h3
      cases h3
  have htk : C.take (k + 1) = C.take k ++ [x] := by rw [List.take_succ_eq_append_getElem hk, hx]
  refine ⟨⟨_, hm', ?_⟩, ?_, ?_, ?_, h.lo⟩
  · rw [htk]
    exact hE2.put hE1.nodup h.s hmap0 hown hg hg2 hat hmap2 hg3
  · have b1 := h.b.alloc h.b.size tmp
    have b2 := b1.grown hg b1.size (fun j e => by cases e; exact h.lo.1)
    have b3 := b2.grown hg2 b2.size (fun j e => Nat.le_trans h.lo.2 (hv0 j e))
    exact b3.grown hg3 b3.size (fun j e => by cases e; exact h.lo.1)
  · exact Nat.le_trans h.s (Nat.le_trans (below_alloc w tmp).size (Nat.le_trans hg.size (Nat.le_trans hg2.size hg3.size)))
  · have r1 := h.rd.grown (grown_of_below (below_alloc w tmp) none) (fun j e => by cases e)
    have r2 := r1.grown hg (fun j e => by cases e; exact .inr hmapA)
    have r3 := r2.grown hg2 (fun j e => .inl (hv0 j e))
    exact r3.grown hg3 (fun j e => by cases e; exact .inr hmap2)
theorem cas_end {wS w3 w : World} {S L : List Rc} {mm : Nat} {A : Option Addr} {C : List Rc} (h : CasI wS w3 mm A C C.length w) (hC : cntL L = C) (hp : L.Perm S) (hA : Asc L) : CasesPost wS S (.returned (.map (some mm))) w := by
  obtain ⟨E, h1, h2⟩ := h.e
  rw [List.take_length] at h2
  refine ⟨mm, E, L, rfl, h1, ?_, hp, hA, h.lo.1, h.b⟩
  rw [hC]
  exact ⟨fun p hp => own_base (h2.own p hp) h.lo.2, h2.all, h2.is, h2.apart, h2.len⟩
/-- A case in a block. -/
theorem cs_ok {r : Rc} (h : rcB r = true) : CsW (r.sign, r.fld) := by
  have o := rc_ok h
  have := o.sign; have := o.fld
  exact ⟨by unfold I64; omega, by unfold I64; omega⟩
theorem zero_recs (w : World) : (zeroValue 22).run Tryz.prog w = .ok (.slice none 0 0) w := Tryz.zeroValue22 w

set_option maxHeartbeats 4000000 in
set_option maxRecDepth 100000 in
theorem cases_calls {B m : Nat} {S : List Rc} (w : World) (h : BkAt w B m S) (hS : S.length ≤ 1000000) :
    Calls Tryz.prog 64 #[.pointer (some ⟨B, 0, none⟩)] w fun e w' => CasesPost w S e w' := by
  obtain ⟨i0, hi, hz0, hz1, hz2⟩ := info_parts info_rec
  have hmm := @run_makeMap Tryz.prog
  have hb0 := below_alloc w (.map #[] 0)
  have HM := hid (GMap.made (K := caseK) w)
  have HK := hid (h.below' hb0)
  have HV := hid h.v
  have HS := hid hS
  have HB := hid hb0
  clear h hS hb0
  go_enter Tryz.func64, Tryz.ntmps64
  go_upto_region 2 with (fail)
  change Code.wp _ _ _ _ (w.alloc (.map #[] 0))
  obtain ⟨mm, hmm2⟩ : ∃ mm, mm = w.heap.size := ⟨_, rfl⟩
  rw [← hmm2] at HM ⊢
  have HMM := hid hmm2
  clear hmm2
  generalize w.alloc (.map #[] 0) = W at *
  go_wp2_with fail
  refine (split_calls W (unhid HK) (unhid HS)).mono ?_
  rintro e w3 ⟨v, u, L, rfl, hp, hA, hv, hu, -, hb⟩
  obtain ⟨A, c, rfl, hrd, -⟩ := own_slice hv
  have HR := hid hrd
  have HA := hid (⟨hp, hA⟩ : _ ∧ _)
  have HVL := hid (fun r (hr : r ∈ cntL L) => (unhid HV) r (hp.mem_iff.1 (List.mem_filter.1 hr).1))
  have hLn : (cntL L).length ≤ 1000000 := Nat.le_trans (List.length_filter_le _ _) (by rw [hp.length_eq]; exact unhid HS)
  have HM := hid (GMap.below (unhid HM) hb (GMap.lt (unhid HM)))
  have HB := hid ((unhid HB).trans (hb.mono (unhid HB).size))
  generalize hC : cntL L = C at *
  have HC := hid hC
  clear hb hp hA hv hrd hC hu
  go_upto_region 4 with (fail)
  go_loopw [17] (fun iv wr => ∃ k : Nat, k ≤ C.length ∧ iv = .int .i64 k ∧ CasI w w3 mm A C k wr) (fun iv _ => C.length - (intOf iv).toNat)
  case atStart => exact ⟨0, Nat.zero_le _, rfl, ⟨[], unhid HM, csE_nil _ _⟩, unhid HB, Nat.le_refl _, RdB.of (unhid HR), by rw [unhid HMM]; exact Nat.le_refl _, (unhid HB).size⟩
  case round =>
    obtain ⟨k, hk, rfl, hci⟩ := hrel
    have HCI := hid hci
    clear hci
    by_cases hlt : k < C.length
    · have hki : (k : Int) < (C.length : Int) := by omega
      obtain ⟨b, off, rfl, hbl, hc⟩ := (unhid HCI).rd.rd (recs_ne hlt)
      obtain ⟨x, hx⟩ : ∃ x, C[k] = x := ⟨_, rfl⟩
      obtain ⟨m0, m1, m2, m3, m4, m5, m6, m7, m8, m9, m10, m11, m12, m13⟩ := recs_cells hc hlt hx
      have HX := hid hx
      have HXV := hid ((unhid HVL) x (hx ▸ List.getElem_mem hlt))
      clear hx hc
      go_upto_region 6 with (fail)
      change Code.wp _ _ _ _ (wr.alloc (.cells (rcA x) 82))
      have hb0 := below_alloc wr (.cells (rcA x) 82)
      have HXA := hid (RcAt.new wr x)
      have HCI := hid ((unhid HCI).below hb0)
      clear m0 m1 m2 m3 m4 m5 m6 m7 m8 m9 m10 m11 m12 m13 hb0 hbl
      obtain ⟨X, hX⟩ : ∃ X, X = wr.heap.size := ⟨_, rfl⟩
      rw [← hX] at HXA ⊢
      clear hX
      generalize wr.alloc (.cells (rcA x) 82) = W1 at *
      obtain ⟨c0, c1, c2, c3, c4, c5⟩ := (unhid HXA).cells
      obtain ⟨e0, e1, e2, e3, e4, e5, e6, e7⟩ := (unhid HXA).seen8
      have hb1 := below_alloc W1 (.cells #[.int .i64 x.sign, .int .i64 x.fld] 116)
      have hn1 := heap_alloc_new W1 (.cells #[.int .i64 x.sign, .int .i64 x.fld] 116)
      go_upto_region 7 with (fail)
      have HCI := hid ((unhid HCI).below hb1)
      have HXA := hid ((unhid HXA).below hb1 (unhid HXA).lt)
      obtain ⟨Y, hY⟩ : ∃ Y, Y = W1.heap.size := ⟨_, rfl⟩
      rw [← hY] at hn1 ⊢
      clear hY hb1 c0 c1 c2 c3 c4 c5 e0 e1 e2 e3 e4 e5 e6 e7
      generalize W1.alloc (.cells #[.int .i64 x.sign, .int .i64 x.fld] 116) = W2 at *
      have y0 : W2.cell? ⟨Y, 0, none⟩ = some (.int .i64 x.sign) := cell_of_row _ Y 0 _ _ _ hn1
      have y1 : W2.cell? ⟨Y, 1, none⟩ = some (.int .i64 x.fld) := cell_of_row _ Y 1 _ _ _ hn1
      obtain ⟨c0, c1, c2, c3, c4, c5⟩ := (unhid HXA).cells
      obtain ⟨e0, e1, e2, e3, e4, e5, e6, e7⟩ := (unhid HXA).seen8
      obtain ⟨E, hE1, hE2⟩ := (unhid HCI).e
      have HE1 := hid hE1
      have HE2 := hid hE2
      have hle : E.length < maxLen := by have h1 := hE2.len; rw [List.length_take] at h1; unfold maxLen; omega
      have HLE := hid hle
      have HWS := hid (cs_ok (unhid HXV))
      have hba := below_alloc W2 (.cells (rcA x) 82)
      have hna := heap_alloc_new W2 (.cells (rcA x) 82)
      clear hE1 hE2 hle
      have HNA := hid hna
      clear hna
      have hmapA := ((unhid HE1).below hba (unhid HE1).lt).isMap
      have hlc : ((C.take k).filter (csB x.sign x.fld)).length ≤ 1000000 := Nat.le_trans (List.length_filter_le _ _) (by rw [List.length_take]; omega)
      have hsW := Nat.le_trans (unhid HCI).s hba.size
      go_wp2_with (first
        | (refine wpList_gentry rfl _ _ rfl cs_keyLaw Tryz.underlying117 zero_recs rfl ((unhid HE1).below hba (unhid HE1).lt) (unhid HLE) (x.sign, x.fld) (unhid HWS) rfl ?_; intro w4 st hp4 hg4 hs4; have hget : w4.ownsRow w3.heap.size 82 14 ((getE E (x.sign, x.fld)).getD (.slice none 0 0)) ((C.take k).filter (csB x.sign x.fld)).length (recs ((C.take k).filter (csB x.sign x.fld))) := ((((unhid HE2).below hba).map hmapA hg4).get (unhid HE1).nodup (x.sign, x.fld)).1; have hnews := rc_news_at (x := x) (w2 := w4) (unhid HNA) hmapA hg4; have hsz : w3.heap.size ≤ w4.heap.size := by rw [hs4]; exact hsW)
        | (at_builtin; refine wpList_append_own_at _ rfl _ _ 22 rfl w3.heap.size 82 i0 (.agg (rcA rc0)) 14 112 Tryz.underlying22 hi hz0 hz1 hz2 rfl (by decide) _ _ _ rfl hget ⟨W2.heap.size, 0, none⟩ 1 1 (rcC x) rfl rfl hnews (rcC_one1 x) (by unfold maxLen; omega) (by omega) hsz ?_; intro v' w6 hown' hgrow hnil hat; have hp6 := GPend.append hp4 hget hgrow)
        | (refine wpList_gestore rfl _ _ _ rfl (x.sign, x.fld) st hp6 rfl rfl v' rfl ?_; intro w7 hm7 hg7))
      have HN := hid (CasI.put (unhid HCI) hlt (unhid HX) (unhid HE1) (unhid HE2) rfl hg4 (.inr hp4.isMap) hown' hgrow hat hm7 hg7)
      clear y0 y1 c0 c1 c2 c3 c4 c5 e0 e1 e2 e3 e4 e5 e6 e7 hn1 hmapA hlc hsW hp4 hg4 hs4 hget hnews hsz hown' hgrow hnil hat hp6 hm7 hg7 hba
      go_wp2_with fail
      go_roundw
      case rel => exact ⟨k + 1, by omega, by go_num, unhid HN⟩
      case measure => simp [intOf]; omega
    · obtain rfl : k = C.length := by omega
      have HEND := hid (cas_end (S := S) (unhid HCI) (unhid HC) (unhid HA).1 (unhid HA).2)
      go_wp2_with fail
      go_ret
      exact unhid HEND

end Go.Proofs.YtegghimjmbgghaaGreat
