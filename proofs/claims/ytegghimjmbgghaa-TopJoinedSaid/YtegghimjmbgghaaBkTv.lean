/-
  A store of what is there; maps.Copy of a set of records into itself; Join of a book with itself. Several books beside one another, in a slice. joins(): two tablets that have not seen each other make a dispute. Deals: their cells, the arguments opened; an order of four. The law TopJoined.
-/
import Derived.Test.YtegghimjmbgghaaBkN
import Derived.Test.YtegghimjmbgghaaBkRg
import Derived.Test.YtegghimjmbgghaaBkX
import Derived.Test.YtegghimjmbgghaaBkDp
import Derived.Test.YtegghimjmbgghaaBkOn
import Derived.Deep.MidRow
import Derived.Deep.WholeRow
import Derived.Test.YtegghimjmbgghaaBkTw
import Derived.Test.YtegghimjmbgghaaBkJn
set_option linter.unusedSimpArgs false
set_option linter.unusedVariables false
namespace Go.Proofs.Ytegghimjmbgghaa
open Go.RowKit

section
open Go.RowKit Go.Shelf

section
variable {P : Program} {k e t : TypeId} {α : Type} [DecidableEq α] {K : KeyEnc P k α} {w : World} {m : Nat} {E : List (α × Value)}
theorem modify_kept {es : Array MapEntry} {j : Nat} {e0 : MapEntry} (h : es[j]? = some e0) {f : MapEntry → MapEntry} (hf : f e0 = e0) : es.modify j f = es := by
  refine Array.toList_inj.1 ?_
  rw [Array.toList_modify]
  refine List.ext_getElem? fun i => ?_
  rw [List.getElem?_modify]
  by_cases e : j = i
  · subst e
    have h2 : es.toList[j]? = some e0 := by simpa using h
    rw [h2]
    simp [hf]
  · simp [e]
theorem set_kept {l : Array Obj} {j : Nat} {o : Obj} (h : l[j]? = some o) : l.setIfInBounds j o = l := by
  refine Array.ext_getElem? fun i => ?_
  rw [Array.getElem?_setIfInBounds]
  by_cases e : j = i
  · subst e
    have hlt := (Array.getElem?_eq_some_iff.1 h).1
    rw [if_pos rfl, if_pos hlt, h]
  · simp [e]
/-- 'm[k] = v' where it is v already: nothing turns. -/
theorem GMap.same (h : GMap K w m E) (ht : P.underlying t = some (.map k e)) {z : Value} (hz : (zeroValue e).run P w = .ok z w) {a : α} {v : Value} (hv : (a, v) ∈ E) :
    (Instr.mapUpdate t (.map (some m)) (K.enc a) v).run P w = .ok () w := by
  have ha := h.wf _ hv
  obtain ⟨D, ⟨es, clock, hb, F, _, rfl⟩, h2, h3, h4, h5, h6⟩ := h
  have hkey := K.key a ha
  have h6' := h6 _ hv
  rcases Maps.fit_look false K.law ht hz hb F hkey with ⟨_, _, hat⟩ | ⟨e0, y, hm0, hk0, _, hRv, hat, _⟩
  · exfalso
    have e1 := h6' (.map [])
    rw [hat] at e1
    cases e1
  · have hval : e0.val = v := by
      have e1 := h6' (.map [])
      rw [hat] at e1
      unfold heldR at hRv
      cases hRv
      injection e1
    rcases K.law.find w hkey es.toList F.keys with ⟨h1, q2⟩ | ⟨j, e1, h1, q2, q3⟩
    · exact absurd hk0 (q2 e0 hm0)
    · have hj : es[j]? = some e1 := by simpa using q2
      obtain ⟨i, hi, ei⟩ := List.getElem_of_mem hm0
      have hij : i = j := Classical.byContradiction fun hne => WideElems.other_key F q2 (by rw [List.getElem?_eq_getElem hi, ei] : es.toList[i]? = some e0) hne (hk0.trans q3.symm)
      have hee : e1 = e0 := by
        subst hij
        rw [List.getElem?_eq_getElem hi, ei] at q2
        exact (Option.some.inj q2).symm
      subst hee
      have hmod : es.modify j (fun e' => { e' with key := K.enc a, val := v }) = es := modify_kept hj (by rw [← hk0, ← hval])
      have hheap : w.heap.setIfInBounds m (.map es clock) = w.heap := set_kept hb
      simp [Instr.mapUpdate, run_underlying ht, MapKept.run_getObj_map hb, K.law.check w false hkey, h1, hj, q3, K.law.stays w hkey, MapKept.run_setObj_map _ hb, Result.andThen, hmod, hheap]
end
section
variable {P : Program} {k : TypeId} {α : Type} [DecidableEq α] {K : KeyEnc P k α} {w : World} {ops : Array Oper} {rest : List Oper} {o : Oper} {a : Act} {Q : Exit → Act → World → Prop} {m : Nat} {E : List (α × Value)}
theorem wpList_gsame (hg : o.guard = none) (mo x v : Operand) (t : TypeId) (hop : o.op = Op.mapUpdate t mo x v) (e : TypeId) (ht : P.underlying t = some (.map k e)) {z : Value} (hz : (zeroValue e).run P w = .ok z w)
    (hm : a.eval mo = .map (some m)) (h : GMap K w m E) (b : α) (hx : a.eval x = K.enc b) (u : Value) (hv : a.eval v = u) (hu : (b, u) ∈ E)
    (hK : wpList P ops Q rest (a.put o.dst undef) w) : wpList P ops Q (o :: rest) a w := by
  refine wpList_plain hg fun K' hK' => ?_
  have hrun := h.same ht hz hu
  unfold Oper.wp
  simp [execOp, hop, hm, hx, hv, hrun, Result.andThen]
  exact hK' _ _ hK
end

/-! ### maps.Copy of a set into itself -/
set_option maxHeartbeats 4000000 in
set_option maxRecDepth 100000 in
theorem scopy_calls (m : Nat) (S : List Rc) (w : World) (hs : RSet w m S) :
    Calls Try.prog 69 #[.map (some m), .map (some m)] w fun e w' => e = .returned (.tuple #[]) ∧ Below w.heap.size w w' := by
  have HSL := hid (GMap.lt hs)
  go_enter Try.func69, Try.ntmps69
  go_wp2_with (first | (at_range; refine wpList_grange rfl _ 52 rfl 4 Try.underlying52 rfl hs ?_; intro w0 hr0 hg0 hs0) | go_in)
  go_frame
  go_loopw [8] (fun _ wr => ∃ (todo : List (Rc × Value)), GRng recK wr m w.heap.size (setE S) todo ∧ Below w.heap.size w wr) (fun _ wr => wr.rangeLeft m w.heap.size)
  case atStart => exact ⟨_, hr0, (Below.refl _ _).grown hg0 (Nat.le_refl _) (fun j e => by cases e)⟩
  case round =>
    obtain ⟨todo, hrg, hgw⟩ := hrel
    have HG := hid hgw
    clear hgw
    go_wp2_with (first | (at_next; refine wpList_gnext rfl _ rfl rfl hrg ?_ ?_) | go_in)
    · intro hnil
      go_wp2
      go_end0
      exact ⟨rfl, unhid HG⟩
    · intro x xv w1 hx hrg1 hlt1 hg1 hs1 hen
      obtain ⟨hxS, rfl⟩ := setE_mem (hrg.left.2 _ hx)
      have hga := below_alloc w1 (.cells (rcA x) 33)
      have HRG := hid (hrg1.below hga hrg1.map.lt hrg1.lt)
      have HL1 := hid (show (w1.alloc (.cells (rcA x) 33)).rangeLeft m w.heap.size < wr.rangeLeft m w.heap.size by
        rw [GRng.left_kept (hga.block m hrg1.map.lt) (hga.block _ hrg1.lt)]; exact hlt1)
      have hb1 := (unhid HG).grown hg1 (unhid HG).size (fun j e => by cases e; exact Nat.le_refl _)
      have HG1 := hid (hb1.trans (hga.mono hb1.size))
      have HX := hid (List.mem_map.2 ⟨x, hxS, rfl⟩ : (x, Value.bool true) ∈ setE S)
      have HA := hid (RcAt.new w1 x)
      change (Instr.entry (.pointer (some ⟨w.heap.size, 0, none⟩))).run Try.prog w1 = .ok (.tuple #[.agg #[.int .i64 x.tab, .int .i64 x.num, .int .i64 x.hour, .int .i64 x.sign, .int .i64 x.fld, .int .i64 x.val, .int .i64 x.s0, .int .i64 x.s1, .int .i64 x.s2, .int .i64 x.s3, .int .i64 x.s4, .int .i64 x.s5, .int .i64 x.s6, .int .i64 x.s7], .bool true]) w1 at hen
      clear hx hrg1 hlt1 hg1 hs1 hxS hb1 hga
      go_upto_region 3 with (fail)
      change Code.wp _ _ _ _ (w1.alloc (.cells (rcA x) 33))
      generalize w1.alloc (.cells (rcA x) 33) = W1 at *
      obtain ⟨c0, c1, c2, c3, c4, c5⟩ := (unhid HA).cells
      obtain ⟨e0, e1, e2, e3, e4, e5, e6, e7⟩ := (unhid HA).seen8
      go_wp2_with (at_mapUpdate; refine wpList_gsame rfl _ _ _ 52 rfl 4 Try.underlying52 (z := .bool false) rfl rfl (unhid HRG).map x rfl (.bool true) rfl (unhid HX) ?_; go_frame)
      exact ⟨⟨delE todo x, unhid HRG, unhid HG1⟩, unhid HL1⟩

/-! ### Join of a book with itself -/
set_option maxHeartbeats 4000000 in
set_option maxRecDepth 100000 in
theorem selfJoin_calls {B m : Nat} {S : List Rc} (w : World) (h : BkAt w B m S) (hn : S.length ≤ 1000000) :
    Calls Try.prog 31 #[.pointer (some ⟨B, 0, none⟩), .pointer (some ⟨B, 0, none⟩)] w fun e w' => e = .returned (.tuple #[.int .i64 0, .int .i64 0]) ∧ Below w.heap.size w w' := by
  have HK := hid h
  have HN := hid hn
  have cb := h.cell
  clear h hn
  go_enter Try.func31, Try.ntmps31
  go_wp2_with fail
  refine (none_calls w (unhid HK)).mono ?_
  rintro e w' ⟨rfl, rfl⟩
  go_wp2_with fail
  refine (none_calls w (unhid HK)).mono ?_
  rintro e w' ⟨rfl, rfl⟩
  go_upto_region 4 with (at_len; refine wpList_glen rfl _ 52 rfl 4 Try.underlying52 rfl (unhid HK).m ?_)
  rw [setE_len]
  refine wp_region_still_tail 8 (by kernel_rfl) (by kernel_rfl) ?_
  simp only [List.take_succ_cons, List.take_zero, List.drop_succ_cons, List.drop_zero]
  iterate 8 still_step
  refine wpStill_nil ?_
  change wpList _ _ _ _ _ w.drew
  have HC := hid (scopy_calls m S w.drew (GMap.block (unhid HK).m rfl))
  have HB := hid (Below.drew (Below.refl w.heap.size w))
  go_wp2_with fail
  refine (unhid HC).mono ?_
  rintro e w3 ⟨rfl, hb3⟩
  have hbw : Below w.heap.size w w3 := (unhid HB).trans (hb3.mono (unhid HB).size)
  have HBK := hid ((unhid HK).below' hbw)
  have cb3 := ((unhid HK).below' hbw).cell
  have HBW := hid hbw
  have hz : (S.length : Int) - (S.length : Int) = 0 := by omega
  have w1 : IntKind.i64.wrap ((S.length : Int) - (S.length : Int)) = 0 := by rw [hz]; rfl
  clear hb3 hbw cb HC HB
  go_wp2_with (first | (at_len; refine wpList_glen rfl _ 52 rfl 4 Try.underlying52 rfl (unhid HBK).m ?_; rw [setE_len]) | fail)
  go_ret2
  exact ⟨rfl, unhid HBW⟩
end

section
open Go.RowKit Go.Shelf

theorem nodup_le {α : Type} [DecidableEq α] : ∀ {S U : List α}, S.Nodup → (∀ r ∈ S, r ∈ U) → S.length ≤ U.length
  | [], U, _, _ => by simp
  | a :: S, U, h, hs => by
    obtain ⟨h1, h2⟩ := List.nodup_cons.1 h
    have ha := hs a (by simp)
    have ih := nodup_le (U := U.erase a) h2 (fun r hr => (List.mem_erase_of_ne (fun e => h1 (by rw [← e]; exact hr))).2 (hs r (by simp [hr])))
    rw [List.length_erase_of_mem ha] at ih
    have := List.length_pos_of_mem ha
    rw [List.length_cons]
    omega

/-- A book: its block, its map, its records. -/
structure Bk where
  B : Nat
  m : Nat
  S : List Rc
def bkPtr (b : Bk) : Value := .pointer (some ⟨b.B, 0, none⟩)
def bkPtrs (L : List Bk) : List Value := L.map bkPtr
theorem bkPtrs_len (L : List Bk) : (bkPtrs L).length = L.length := by simp [bkPtrs]
theorem bkPtrs_ne {L : List Bk} {k : Nat} (h : k < L.length) : bkPtrs L ≠ [] := by
  intro e
  have := bkPtrs_len L
  rw [e] at this
  simp at this
  omega
theorem bkPtrs_at {L : List Bk} {k : Nat} (h : k < L.length) : (bkPtrs L)[k]? = some (bkPtr L[k]) := by simp [bkPtrs, h]
theorem bkPtrs_set {L : List Bk} {k : Nat} (h : k < L.length) (T : List Rc) : bkPtrs (L.set k ⟨L[k].B, L[k].m, T⟩) = bkPtrs L := by
  unfold bkPtrs
  rw [List.map_set]
  refine List.ext_getElem? fun i => ?_
  rw [List.getElem?_set]
  split
  · rename_i e
    subst e
    simp [h, bkPtr]
  · rfl
/-- All records of books. -/
def allS (L : List Bk) : List Rc := L.flatMap Bk.S
theorem mem_allS {L : List Bk} {r : Rc} : r ∈ allS L ↔ ∃ b ∈ L, r ∈ b.S := List.mem_flatMap
theorem mem_allS_set {L : List Bk} {k : Nat} (h : k < L.length) {T : List Rc} {r : Rc} (hr : r ∈ allS (L.set k ⟨L[k].B, L[k].m, T⟩)) : r ∈ T ∨ r ∈ allS L := by
  obtain ⟨b, hb, hr⟩ := mem_allS.1 hr
  rcases List.mem_or_eq_of_mem_set hb with hb | rfl
  · exact .inr (mem_allS.2 ⟨b, hb, hr⟩)
  · exact .inl hr
/-- Books, each with a map of its own. -/
structure Bks (w0 : World) (L : List Bk) (v : Value) (w : World) : Prop where
  own : w.ownsRow w0.heap.size 25 1 v L.length (bkPtrs L)
  bk : ∀ b ∈ L, BkAt w b.B b.m b.S
  nd : (L.map Bk.m).Nodup
  fr : ∀ b ∈ L, w0.heap.size ≤ b.m
  b : Below w0.heap.size w0 w
theorem bk_ne_map' {w : World} {B m B' m' : Nat} {S S' : List Rc} (h : BkAt w B m S) (h' : BkAt w B' m' S') : B' ≠ m := by
  rintro rfl
  obtain ⟨es, c, hm⟩ := GMap.isMap h.m
  rw [h'.b] at hm
  cases hm
theorem own_ne_map {w : World} {base n : Nat} {ty : TypeId} {v : Value} {xs : List Value} {B m k : Nat} {S : List Rc} (ho : w.ownsRow base ty k v n xs) (h : BkAt w B m S) : some m ≠ v.ownBlock := by
  intro e
  rcases ho.2 with ⟨rfl, _⟩ | ⟨g, cap, cur, rfl, hb, hh, _⟩
  · simp [Value.ownBlock] at e
  · have : g = m := by simpa [Value.ownBlock] using e.symm
    subst this
    obtain ⟨es, c, hm⟩ := GMap.isMap h.m
    rw [hh] at hm
    cases hm
theorem own_beside {w w' : World} {base n : Nat} {ty : TypeId} {v : Value} {xs : List Value} {B m k : Nat} {S : List Rc} (ho : w.ownsRow base ty k v n xs) (h : BkAt w B m S) (hg : w.grownBy w' (some m)) : w'.ownsRow base ty k v n xs :=
  ho.kept hg (by
    cases hv : v.ownBlock with
    | none => exact .inl rfl
    | some g => exact .inr (fun e => own_ne_map ho h (e.symm.trans hv.symm)))
theorem map_inj_of_nodup {L : List Bk} (h : (L.map Bk.m).Nodup) {i j : Nat} (hi : i < L.length) (hj : j < L.length) (e : L[i].m = L[j].m) : i = j := by
  rw [List.Nodup, List.pairwise_iff_getElem] at h
  rcases Nat.lt_trichotomy i j with hlt | he | hlt
  · exact absurd (by rw [List.getElem_map, List.getElem_map]; exact e) (h i j (by simpa using hi) (by simpa using hj) hlt)
  · exact he
  · exact absurd (by rw [List.getElem_map, List.getElem_map]; exact e.symm) (h j i (by simpa using hj) (by simpa using hi) hlt)
section
variable {w0 w w' : World} {L : List Bk} {v : Value}
theorem Bks.nil (w0 : World) : Bks w0 [] (.slice none 0 0) w0 := ⟨World.ownsRow_nil _ _ _ _, fun b hb => by simp at hb, List.nodup_nil, fun b hb => by simp at hb, Below.refl _ _⟩
theorem Bks.below (h : Bks w0 L v w) (hb : Below w.heap.size w w') : Bks w0 L v w' := ⟨own_below h.own hb, fun b hB => (h.bk b hB).below' hb, h.nd, h.fr, h.b.trans (hb.mono h.b.size)⟩
theorem Bks.at (h : Bks w0 L v w) {k : Nat} (hk : k < L.length) : BkAt w L[k].B L[k].m L[k].S := h.bk _ (List.getElem_mem hk)
/-- One of them is written. -/
theorem Bks.write (h : Bks w0 L v w) {k : Nat} (hk : k < L.length) {T : List Rc} (hT : BkAt w' L[k].B L[k].m T) (hg : w.grownBy w' (some L[k].m)) : Bks w0 (L.set k ⟨L[k].B, L[k].m, T⟩) v w' := by
  have hm : (L.set k ⟨L[k].B, L[k].m, T⟩).map Bk.m = L.map Bk.m := by
    rw [List.map_set]
    refine List.ext_getElem? fun i => ?_
    rw [List.getElem?_set]
    split
    · rename_i e
      subst e
      simp [hk]
    · rfl
  refine ⟨?_, fun b hb => ?_, by rw [hm]; exact h.nd, fun b hb => ?_, h.b.grown hg h.b.size (fun j e => by have := h.fr _ (List.getElem_mem hk); have := Option.some.inj e; omega)⟩
  · rw [List.length_set, bkPtrs_set hk]
    exact own_beside h.own (h.at hk) hg
  · obtain ⟨i, hi, e⟩ := List.getElem_of_mem hb
    have hi' : i < L.length := by simpa using hi
    rw [List.getElem_set] at e
    split at e
    · subst e
      exact hT
    · rename_i hne
      subst e
      exact (h.at hi').grown hg (fun e => bk_ne_map' (h.at hk) (h.at hi') (Option.some.inj e)) (fun e => hne (map_inj_of_nodup h.nd hk hi' (Option.some.inj e).symm))
  · rcases List.mem_or_eq_of_mem_set hb with hb | rfl
    · exact h.fr b hb
    · exact h.fr L[k] (List.getElem_mem hk)
/-- Another book is written. -/
theorem Bks.other {B m : Nat} {S : List Rc} (h : Bks w0 L v w) (hB : BkAt w B m S) (hm : m ∉ L.map Bk.m) (hf : w0.heap.size ≤ m) (hg : w.grownBy w' (some m)) : Bks w0 L v w' :=
  ⟨own_beside h.own hB hg, fun b hb => (h.bk b hb).grown hg (fun e => bk_ne_map' hB (h.bk b hb) (Option.some.inj e)) (fun e => hm (List.mem_map.2 ⟨b, hb, Option.some.inj e⟩)), h.nd, h.fr, h.b.grown hg h.b.size (fun j e => by cases e; exact hf)⟩
/-- One more. -/
theorem Bks.push {v' : Value} {b : Bk} {w1 w2 : World} {tmp : Obj} (h : Bks w0 L v w) (hb1 : Below w.heap.size w w1) (hB : BkAt w1 b.B b.m b.S) (hm : b.m = w.heap.size)
    (hown : w2.ownsRow w0.heap.size 25 1 v' (L.length + 1) (bkPtrs L ++ [bkPtr b])) (hg : (w1.alloc tmp).grownBy w2 v.ownBlock) : Bks w0 (L ++ [b]) v' w2 := by
  have h1 := h.below hb1
  have h2 := h1.below (below_alloc w1 tmp)
  have hB2 := hB.below' (below_alloc w1 tmp)
  have keep : ∀ {B m S}, BkAt (w1.alloc tmp) B m S → B ≠ 0 → True := fun _ _ => trivial
  clear keep
  have hne : ∀ c : Bk, BkAt (w1.alloc tmp) c.B c.m c.S → some c.B ≠ v.ownBlock → BkAt w2 c.B c.m c.S := fun c hc hn => hc.grown hg hn (own_ne_map h2.own hc)
  have hnB : ∀ c : Bk, BkAt (w1.alloc tmp) c.B c.m c.S → some c.B ≠ v.ownBlock := fun c hc e => by
    rcases h2.own.2 with ⟨rfl, _⟩ | ⟨g, cap, cur, rfl, hb, hh, _⟩
    · simp [Value.ownBlock] at e
    · have : g = c.B := by simpa [Value.ownBlock] using e.symm
      subst this
      rw [hc.b] at hh
      injection hh with hh
      injection hh with _ hh _
      exact absurd hh (by decide)
  refine ⟨by rw [List.length_append, List.length_singleton]; simpa [bkPtrs] using hown, fun c hc => ?_, ?_, fun c hc => ?_, ?_⟩
  · rcases List.mem_append.1 hc with hc | hc
    · exact hne c (h2.bk c hc) (hnB c (h2.bk c hc))
    · rw [List.mem_singleton] at hc
      subst hc
      exact hne c hB2 (hnB c hB2)
  · rw [List.map_append, List.nodup_append]
    refine ⟨h.nd, by simp, fun x hx y hy => ?_⟩
    obtain ⟨c, hc, rfl⟩ := List.mem_map.1 hx
    simp only [List.map_cons, List.map_nil, List.mem_singleton] at hy
    subst hy
    have := (h.bk c hc).lt.2
    omega
  · rcases List.mem_append.1 hc with hc | hc
    · exact h.fr c hc
    · rw [List.mem_singleton] at hc
      subst hc
      have := h.b.size
      omega
  · exact h2.b.grown hg h2.b.size (fun j e => by have := (own_block_lt h2.own e).1; omega)
/-- A pointer of the slice, where the slice is known. -/
theorem Bks.ptr {A : Option Addr} {n c : Nat} (h : Bks w0 L (.slice A n c) w) {k : Nat} (hk : k < L.length) : ∃ b off, A = some ⟨b, off, none⟩ ∧ b < w.heap.size ∧ w.cell? ⟨b, off + k, none⟩ = some (.pointer (some ⟨L[k].B, 0, none⟩)) := by
  obtain ⟨A', c', e, hr, -⟩ := own_slice h.own
  injection e with e1 e2 e3
  subst e1
  obtain ⟨b, off, hA, hlt, hc⟩ := hr (bkPtrs_ne hk)
  exact ⟨b, off, hA, hlt, hc k _ (bkPtrs_at hk)⟩
theorem Bks.ptr' {b off n c : Nat} (h : Bks w0 L (.slice (some ⟨b, off, none⟩) n c) w) {k : Nat} (hk : k < L.length) : b < w.heap.size ∧ w.cell? ⟨b, off + k, none⟩ = some (.pointer (some ⟨L[k].B, 0, none⟩)) := by
  obtain ⟨b', off', hA, hlt, hc⟩ := h.ptr hk
  injection hA with hA
  injection hA with h1 h2
  subst h1 h2
  exact ⟨hlt, hc⟩
/-- A pointer of the slice. -/
theorem Bks.cell (h : Bks w0 L v w) : ∃ A c, v = .slice A L.length c ∧ (∀ k (hk : k < L.length), ∃ b off, A = some ⟨b, off, none⟩ ∧ b < w.heap.size ∧ w.cell? ⟨b, off + k, none⟩ = some (.pointer (some ⟨L[k].B, 0, none⟩))) := by
  obtain ⟨A, c, e, hr, -⟩ := own_slice h.own
  refine ⟨A, c, e, fun k hk => ?_⟩
  obtain ⟨b, off, hA, hlt, hc⟩ := hr (bkPtrs_ne hk)
  exact ⟨b, off, hA, hlt, hc k _ (bkPtrs_at hk)⟩
end

/-- The books, and three more. -/
structure Tri (w0 : World) (L : List Bk) (v : Value) (o t a : Bk) (w : World) : Prop where
  bs : Bks w0 L v w
  ko : BkAt w o.B o.m o.S
  kt : BkAt w t.B t.m t.S
  ka : BkAt w a.B a.m a.S
  ne : o.m ≠ t.m ∧ o.m ≠ a.m ∧ t.m ≠ a.m
  no : o.m ∉ L.map Bk.m ∧ t.m ∉ L.map Bk.m ∧ a.m ∉ L.map Bk.m
  fr : w0.heap.size ≤ o.m ∧ w0.heap.size ≤ t.m ∧ w0.heap.size ≤ a.m
theorem bk_beside {w w' : World} {B m B' m' : Nat} {S S' : List Rc} (h' : BkAt w B' m' S') (h : BkAt w B m S) (hg : w.grownBy w' (some m)) (hne : m' ≠ m) : BkAt w' B' m' S' :=
  h'.grown hg (fun e => bk_ne_map' h h' (Option.some.inj e)) (fun e => hne (Option.some.inj e))
section
variable {w0 w w' : World} {L : List Bk} {v : Value} {o t a : Bk} {T : List Rc}
theorem Tri.below (h : Tri w0 L v o t a w) (hb : Below w.heap.size w w') : Tri w0 L v o t a w' := ⟨h.bs.below hb, h.ko.below' hb, h.kt.below' hb, h.ka.below' hb, h.ne, h.no, h.fr⟩
theorem Tri.wo (h : Tri w0 L v o t a w) (hT : BkAt w' o.B o.m T) (hg : w.grownBy w' (some o.m)) : Tri w0 L v ⟨o.B, o.m, T⟩ t a w' :=
  ⟨h.bs.other h.ko h.no.1 h.fr.1 hg, hT, bk_beside h.kt h.ko hg h.ne.1.symm, bk_beside h.ka h.ko hg h.ne.2.1.symm, h.ne, h.no, h.fr⟩
theorem Tri.wt (h : Tri w0 L v o t a w) (hT : BkAt w' t.B t.m T) (hg : w.grownBy w' (some t.m)) : Tri w0 L v o ⟨t.B, t.m, T⟩ a w' :=
  ⟨h.bs.other h.kt h.no.2.1 h.fr.2.1 hg, bk_beside h.ko h.kt hg h.ne.1, hT, bk_beside h.ka h.kt hg h.ne.2.2.symm, h.ne, h.no, h.fr⟩
theorem Tri.wa (h : Tri w0 L v o t a w) (hT : BkAt w' a.B a.m T) (hg : w.grownBy w' (some a.m)) : Tri w0 L v o t ⟨a.B, a.m, T⟩ w' :=
  ⟨h.bs.other h.ka h.no.2.2 h.fr.2.2 hg, bk_beside h.ko h.ka hg h.ne.2.1, bk_beside h.kt h.ka hg h.ne.2.2, hT, h.ne, h.no, h.fr⟩
/-- A book that is new is written. -/
theorem Tri.new (h : Tri w0 L v o t a w) {w1 : World} {B m : Nat} {S : List Rc} (hb : Below w.heap.size w w1) (hk : BkAt w1 B m S) (hm : w.heap.size ≤ m) (hg : w1.grownBy w' (some m)) : Tri w0 L v o t a w' := by
  have h1 := h.below hb
  have lo := h.ko.lt.2
  have lt := h.kt.lt.2
  have la := h.ka.lt.2
  refine ⟨h1.bs.other hk (fun hx => ?_) (by have := h.bs.b.size; omega) hg, bk_beside h1.ko hk hg (by omega), bk_beside h1.kt hk hg (by omega), bk_beside h1.ka hk hg (by omega), h.ne, h.no, h.fr⟩
  obtain ⟨b, hb, e⟩ := List.mem_map.1 hx
  have := (h.bs.bk b hb).lt.2
  omega
/-- Three that are new. -/
theorem Tri.made {w1 w2 w3 : World} (h : Bks w0 L v w) (h1 : BkAt w1 (w.heap.size + 1) w.heap.size []) (b1 : Below w.heap.size w w1) (h2 : BkAt w2 (w1.heap.size + 1) w1.heap.size []) (b2 : Below w1.heap.size w1 w2) (h3 : BkAt w3 (w2.heap.size + 1) w2.heap.size []) (b3 : Below w2.heap.size w2 w3) :
    Tri w0 L v ⟨w.heap.size + 1, w.heap.size, []⟩ ⟨w1.heap.size + 1, w1.heap.size, []⟩ ⟨w2.heap.size + 1, w2.heap.size, []⟩ w3 := by
  have l1 := h1.lt
  have l2 := h2.lt
  have l0 := h.b.size
  have hn : ∀ n, w.heap.size ≤ n → n ∉ L.map Bk.m := fun n hn hx => by
    obtain ⟨b, hb, e⟩ := List.mem_map.1 hx
    have := (h.bk b hb).lt.2
    omega
  exact ⟨((h.below b1).below b2).below b3, (h1.below' b2).below' b3, h2.below' b3, h3, ⟨by dsimp only; omega, by dsimp only; omega, by dsimp only; omega⟩, ⟨hn _ (Nat.le_refl _), hn _ (by dsimp only; omega), hn _ (by dsimp only; omega)⟩, ⟨by dsimp only; omega, by dsimp only; omega, by dsimp only; omega⟩⟩
theorem bk_to {B m : Nat} {S M : List Rc} (h : BkAt w B m S) (hM : M.Nodup) (hm : ∀ r, r ∈ S ↔ r ∈ M) : BkAt w B m M := h.perm ((List.perm_ext_iff_of_nodup (RSet.nodup h.m) hM).2 hm)
end
end

section
open Go.RowKit Go.Shelf

theorem r12_other {s f : Int} (h : ¬ (s = 7 ∧ f = 2)) : valuesP [r1, r2] s f = [] := by
  unfold valuesP
  have e : cntL [r1, r2] = [r1, r2] := List.filter_eq_self.2 r12_cnt
  rw [e]
  have h2 : [r1, r2].filter (csB s f) = [] := by
    rw [List.filter_eq_nil_iff]
    intro r hr
    simp only [List.mem_cons, List.not_mem_nil, or_false] at hr
    rcases hr with rfl | rfl <;> (simp only [csB, r1, r2, Bool.and_eq_true, decide_eq_true_eq]; rintro ⟨e1, e2⟩; exact h ⟨(of_decide_eq_true e1).symm, (of_decide_eq_true e2).symm⟩)
  rw [h2]
  rfl
theorem r12_disp : DispIs [r1, r2] [(7, 2)] := by
  refine ⟨List.pairwise_singleton _ _, fun c => ?_⟩
  obtain ⟨s, f⟩ := c
  rw [List.mem_singleton]
  by_cases h : s = 7 ∧ f = 2
  · obtain ⟨rfl, rfl⟩ := h
    rw [r12_values]
    simp
  · rw [r12_other h]
    simp only [Prod.mk.injEq, List.length_nil]
    exact ⟨fun e => absurd e h, fun e => by omega⟩

set_option maxHeartbeats 4000000 in
set_option maxRecDepth 100000 in
theorem joins_calls (w : World) : Calls Try.prog 33 #[] w fun e w' => e = .returned (.bool true) ∧ Below w.heap.size w w' := by
  go_enter Try.func33, Try.ntmps33
  go_wp2_with fail
  refine (bookNew_calls w).mono ?_
  rintro e W1 ⟨rfl, hk1, hb1⟩
  have HK1 := hid hk1
  have HB := hid hb1
  clear hk1 hb1
  go_wp2_with fail
  refine (bookNew_calls W1).mono ?_
  rintro e W4 ⟨rfl, hk4, hb4⟩
  have HK2 := hid hk4
  have HLT := hid (unhid HK1).lt
  have HK1 := hid ((unhid HK1).below' hb4)
  have HB := hid ((unhid HB).trans (hb4.mono (unhid HB).size))
  have HL := hid ((unhid HB).size)
  obtain ⟨B2, hB2⟩ : ∃ B2, B2 = W1.heap.size := ⟨_, rfl⟩
  have HE2 := hid (show w.heap.size ≤ B2 ∧ w.heap.size ≠ B2 ∧ w.heap.size + 1 ≠ B2 from by
    have := unhid HLT
    omega)
  clear HL HLT
  rw [← hB2] at HK2 ⊢
  clear hk4 hb4 hB2
  go_wp2_with fail
  refine (write_calls 1 0 7 2 5 W4 (unhid HK1) (by simp) (by unfold I64; omega)).mono ?_
  rintro e W2 ⟨rfl, hk2, hg2⟩
  rw [write_first1] at hk2 ⊢
  simp only [rcV, rcA, r1]
  have HK1 := hid hk2
  have HK2 := hid ((unhid HK2).grown hg2 (fun e => by have := unhid HE2; have := Option.some.inj e; omega) (fun e => by have := unhid HE2; have := Option.some.inj e; omega))
  have HB := hid ((unhid HB).grown hg2 (unhid HB).size (fun j e => by cases e; exact Nat.le_refl _))
  clear hk2 hg2
  go_upto_region 3 with (fail)
  change Code.wp _ _ _ _ (W2.alloc (.cells (rcA r1) 33))
  have hb3 := below_alloc W2 (.cells (rcA r1) 33)
  have HK1 := hid ((unhid HK1).below' hb3)
  have HK2 := hid ((unhid HK2).below' hb3)
  have HB := hid ((unhid HB).trans (hb3.mono (unhid HB).size))
  clear hb3
  generalize W2.alloc (.cells (rcA r1) 33) = W3 at *
  go_wp2_with fail
  refine (write_calls 2 0 7 2 6 W3 (unhid HK2) (by simp) (by unfold I64; omega)).mono ?_
  rintro e W5 ⟨rfl, hk5, hg5⟩
  rw [write_first2] at hk5 ⊢
  simp only [rcV, rcA, r2]
  have HK2 := hid hk5
  have HK1 := hid ((unhid HK1).grown hg5 (fun e => (unhid HE2).2.2 (Option.some.inj e)) (fun e => (unhid HE2).2.1 (Option.some.inj e)))
  have HB := hid ((unhid HB).grown hg5 (unhid HB).size (fun j e => by cases e; exact (unhid HE2).1))
  clear hk5 hg5
  go_upto_region 4 with (fail)
  change Code.wp _ _ _ _ (W5.alloc (.cells (rcA r2) 33))
  have hb6 := below_alloc W5 (.cells (rcA r2) 33)
  have HK1 := hid ((unhid HK1).below' hb6)
  have HK2 := hid ((unhid HK2).below' hb6)
  have HB := hid ((unhid HB).trans (hb6.mono (unhid HB).size))
  clear hb6
  generalize W5.alloc (.cells (rcA r2) 33) = W6 at *
  go_wp2_with fail
  refine (join_calls W6 (unhid HK1) (unhid HK2) (unhid HE2).2.1 (by simp)).mono ?_
  rintro e W7 ⟨T, rfl, hk7, hmem, -, hg7⟩
  have hp := r12_list (RSet.nodup hk7.m) hmem
  have hTl : T.length = 2 := hp.length_eq
  have HK1 := hid (hk7.perm hp)
  have HB := hid ((unhid HB).grown hg7 (unhid HB).size (fun j e => by cases e; exact Nat.le_refl _))
  rw [hTl]
  clear hk7 hmem hg7 hp hTl
  go_wp2_with fail
  refine (disputes_calls W7 (unhid HK1) (by simp) r12_asc (fun r => Iff.rfl)).mono ?_
  rintro e W8 ⟨v, D, rfl, hD, -, hown, hb8⟩
  obtain rfl : D = [(7, 2)] := dispIs_eq hD r12_disp
  obtain ⟨A, c, rfl, hrd, -⟩ := own_slice hown
  obtain ⟨b, off, rfl, hbl, hc⟩ := hrd (by simp [fks, fkC])
  have i0 : W8.cell? ⟨b, off, none⟩ = some (.int .i64 7) := hc 0 _ rfl
  have i1 : W8.cell? ⟨b, off + 1, none⟩ = some (.int .i64 2) := hc 1 _ rfl
  have HB := hid ((unhid HB).trans (hb8.mono (unhid HB).size))
  clear hown hrd hc hb8 hD
  go_wp2_with fail
  go_ret
  exact ⟨rfl, unhid HB⟩
end

section
open Go.RowKit Go.ChangeShapes Go.WideShapes Go.Deep

/-- A deal. -/
structure Dl where
  k : UInt8
  b : UInt8
  o : UInt8
  n : Nt
  r : Rc
def dlC (d : Dl) : List Value := [.int .u8 (d.k.toNat : Int), .int .u8 (d.b.toNat : Int), .int .u8 (d.o.toNat : Int), .int .i64 d.n.tab, .int .i64 d.n.hour, .int .i64 d.n.sign, .int .i64 d.n.fld, .int .i64 d.n.val, .int .i64 d.r.tab, .int .i64 d.r.num, .int .i64 d.r.hour, .int .i64 d.r.sign, .int .i64 d.r.fld, .int .i64 d.r.val, .int .i64 d.r.s0, .int .i64 d.r.s1, .int .i64 d.r.s2, .int .i64 d.r.s3, .int .i64 d.r.s4, .int .i64 d.r.s5, .int .i64 d.r.s6, .int .i64 d.r.s7]
def dls (l : List Dl) : List Value := l.flatMap dlC
def DlW (d : Dl) : Prop := NtW d.n ∧ RcW d.r
theorem dls_ne {l : List Dl} {k : Nat} (h : k < l.length) : dls l ≠ [] := flat_ne (f := dlC) (K := 22) (fun _ => rfl) (by omega) h
theorem dls_cells {w : World} {b off : Nat} {l : List Dl} (h : ∀ j u, (dls l)[j]? = some u → w.cell? ⟨b, off + j, none⟩ = some u) {k : Nat} (hk : k < l.length) {x : Dl} (hx : l[k]'hk = x) :
    w.cell? ⟨b, off + k * 22, none⟩ = some (.int .u8 (x.k.toNat : Int)) ∧ w.cell? ⟨b, off + k * 22 + 1, none⟩ = some (.int .u8 (x.b.toNat : Int)) ∧ w.cell? ⟨b, off + k * 22 + 2, none⟩ = some (.int .u8 (x.o.toNat : Int)) ∧ w.cell? ⟨b, off + k * 22 + 3, none⟩ = some (.int .i64 x.n.tab) ∧ w.cell? ⟨b, off + k * 22 + 4, none⟩ = some (.int .i64 x.n.hour) ∧ w.cell? ⟨b, off + k * 22 + 5, none⟩ = some (.int .i64 x.n.sign) ∧ w.cell? ⟨b, off + k * 22 + 6, none⟩ = some (.int .i64 x.n.fld) ∧ w.cell? ⟨b, off + k * 22 + 7, none⟩ = some (.int .i64 x.n.val) ∧ w.cell? ⟨b, off + k * 22 + 8, none⟩ = some (.int .i64 x.r.tab) ∧ w.cell? ⟨b, off + k * 22 + 9, none⟩ = some (.int .i64 x.r.num) ∧ w.cell? ⟨b, off + k * 22 + 10, none⟩ = some (.int .i64 x.r.hour) ∧ w.cell? ⟨b, off + k * 22 + 11, none⟩ = some (.int .i64 x.r.sign) ∧ w.cell? ⟨b, off + k * 22 + 12, none⟩ = some (.int .i64 x.r.fld) ∧ w.cell? ⟨b, off + k * 22 + 13, none⟩ = some (.int .i64 x.r.val) ∧ w.cell? ⟨b, off + k * 22 + 14, none⟩ = some (.int .i64 x.r.s0) ∧ w.cell? ⟨b, off + k * 22 + 15, none⟩ = some (.int .i64 x.r.s1) ∧ w.cell? ⟨b, off + k * 22 + 16, none⟩ = some (.int .i64 x.r.s2) ∧ w.cell? ⟨b, off + k * 22 + 17, none⟩ = some (.int .i64 x.r.s3) ∧ w.cell? ⟨b, off + k * 22 + 18, none⟩ = some (.int .i64 x.r.s4) ∧ w.cell? ⟨b, off + k * 22 + 19, none⟩ = some (.int .i64 x.r.s5) ∧ w.cell? ⟨b, off + k * 22 + 20, none⟩ = some (.int .i64 x.r.s6) ∧ w.cell? ⟨b, off + k * 22 + 21, none⟩ = some (.int .i64 x.r.s7) := by
  have e : ∀ j, j < 22 → (dls l)[k * 22 + j]? = (dlC x)[j]? := fun j hj => by rw [← hx]; exact flat_at (f := dlC) (K := 22) (fun _ => rfl) l k j hk hj
  have f : ∀ j u, (dlC x)[j]? = some u → j < 22 → w.cell? ⟨b, off + k * 22 + j, none⟩ = some u := fun j u hu hj => by
    rw [Nat.add_assoc]
    exact h (k * 22 + j) u ((e j hj).trans hu)
  exact ⟨f 0 _ rfl (by omega), f 1 _ rfl (by omega), f 2 _ rfl (by omega), f 3 _ rfl (by omega), f 4 _ rfl (by omega), f 5 _ rfl (by omega), f 6 _ rfl (by omega), f 7 _ rfl (by omega), f 8 _ rfl (by omega), f 9 _ rfl (by omega), f 10 _ rfl (by omega), f 11 _ rfl (by omega), f 12 _ rfl (by omega), f 13 _ rfl (by omega), f 14 _ rfl (by omega), f 15 _ rfl (by omega), f 16 _ rfl (by omega), f 17 _ rfl (by omega), f 18 _ rfl (by omega), f 19 _ rfl (by omega), f 20 _ rfl (by omega), f 21 _ rfl (by omega)⟩
theorem dls_range {w : World} {b off : Nat} {l : List Dl} (h : ∀ j u, (dls l)[j]? = some u → w.cell? ⟨b, off + j, none⟩ = some u) {k : Nat} (hk : k < l.length) {x : Dl} (hx : l[k]'hk = x) : w.rangeAt b (off + k * 22) (dlC x) := fun j v hv => by
  have hj : j < 22 := (List.getElem?_eq_some_iff.1 hv).1
  have e : (dls l)[k * 22 + j]? = (dlC x)[j]? := by rw [← hx]; exact flat_at (f := dlC) (K := 22) (fun _ => rfl) l k j hk hj
  have := h (k * 22 + j) v (e.trans hv)
  rwa [← Nat.add_assoc] at this
theorem dlC_one (x : Dl) : (dlC x).toArray.all (·.oneCell') = true := by simp [dlC, Value.oneCell']
/-- A deal in a block of its own. -/
def DlAt (w : World) (X : Nat) (d : Dl) : Prop := w.heap[X]? = some (.cells (dlC d).toArray 66 (0, 0))
theorem DlAt.below {w w' : World} {X : Nat} {d : Dl} (h : DlAt w X d) (hb : Below w.heap.size w w') : DlAt w' X d := (hb.block X (Array.getElem?_eq_some_iff.1 h).1).trans h
theorem DlAt.cells {w : World} {X : Nat} {d : Dl} (h : DlAt w X d) :
    w.cell? ⟨X, 0, none⟩ = some (.int .u8 (d.k.toNat : Int)) ∧ w.cell? ⟨X, 1, none⟩ = some (.int .u8 (d.b.toNat : Int)) ∧ w.cell? ⟨X, 2, none⟩ = some (.int .u8 (d.o.toNat : Int)) ∧ w.cell? ⟨X, 3, none⟩ = some (.int .i64 d.n.tab) ∧ w.cell? ⟨X, 4, none⟩ = some (.int .i64 d.n.hour) ∧ w.cell? ⟨X, 5, none⟩ = some (.int .i64 d.n.sign) ∧ w.cell? ⟨X, 6, none⟩ = some (.int .i64 d.n.fld) ∧ w.cell? ⟨X, 7, none⟩ = some (.int .i64 d.n.val) ∧ w.cell? ⟨X, 8, none⟩ = some (.int .i64 d.r.tab) ∧ w.cell? ⟨X, 9, none⟩ = some (.int .i64 d.r.num) ∧ w.cell? ⟨X, 10, none⟩ = some (.int .i64 d.r.hour) ∧ w.cell? ⟨X, 11, none⟩ = some (.int .i64 d.r.sign) ∧ w.cell? ⟨X, 12, none⟩ = some (.int .i64 d.r.fld) ∧ w.cell? ⟨X, 13, none⟩ = some (.int .i64 d.r.val) ∧ w.cell? ⟨X, 14, none⟩ = some (.int .i64 d.r.s0) ∧ w.cell? ⟨X, 15, none⟩ = some (.int .i64 d.r.s1) ∧ w.cell? ⟨X, 16, none⟩ = some (.int .i64 d.r.s2) ∧ w.cell? ⟨X, 17, none⟩ = some (.int .i64 d.r.s3) ∧ w.cell? ⟨X, 18, none⟩ = some (.int .i64 d.r.s4) ∧ w.cell? ⟨X, 19, none⟩ = some (.int .i64 d.r.s5) ∧ w.cell? ⟨X, 20, none⟩ = some (.int .i64 d.r.s6) ∧ w.cell? ⟨X, 21, none⟩ = some (.int .i64 d.r.s7) :=
  ⟨cell_of_row _ X 0 _ _ _ h, cell_of_row _ X 1 _ _ _ h, cell_of_row _ X 2 _ _ _ h, cell_of_row _ X 3 _ _ _ h, cell_of_row _ X 4 _ _ _ h, cell_of_row _ X 5 _ _ _ h, cell_of_row _ X 6 _ _ _ h, cell_of_row _ X 7 _ _ _ h, cell_of_row _ X 8 _ _ _ h, cell_of_row _ X 9 _ _ _ h, cell_of_row _ X 10 _ _ _ h, cell_of_row _ X 11 _ _ _ h, cell_of_row _ X 12 _ _ _ h, cell_of_row _ X 13 _ _ _ h, cell_of_row _ X 14 _ _ _ h, cell_of_row _ X 15 _ _ _ h, cell_of_row _ X 16 _ _ _ h, cell_of_row _ X 17 _ _ _ h, cell_of_row _ X 18 _ _ _ h, cell_of_row _ X 19 _ _ _ h, cell_of_row _ X 20 _ _ _ h, cell_of_row _ X 21 _ _ _ h⟩
theorem DlAt.grown {w w' : World} {X m : Nat} {d : Dl} (h : DlAt w X d) (hm : ∃ es c, w.heap[m]? = some (.map es c)) (hg : w.grownBy w' (some m)) : DlAt w' X d := by
  refine (hg.block X (Array.getElem?_eq_some_iff.1 h).1 (fun e => ?_)).trans h
  have := Option.some.inj e
  subst this
  obtain ⟨es, c, hm⟩ := hm
  unfold DlAt at h
  rw [h] at hm
  cases hm
theorem DlAt.range {w : World} {X : Nat} {d : Dl} (h : DlAt w X d) : w.rangeAt X 8 (rcC d.r) := fun j v hv => by
  rw [cell_of_row _ X _ _ _ _ h]
  have hj : j < 14 := (List.getElem?_eq_some_iff.1 hv).1
  have e : ∀ j, j < 14 → (dlC d)[8 + j]? = (rcC d.r)[j]? := by
    intro j hj
    have : j = 0 ∨ j = 1 ∨ j = 2 ∨ j = 3 ∨ j = 4 ∨ j = 5 ∨ j = 6 ∨ j = 7 ∨ j = 8 ∨ j = 9 ∨ j = 10 ∨ j = 11 ∨ j = 12 ∨ j = 13 := by omega
    rcases this with rfl | rfl | rfl | rfl | rfl | rfl | rfl | rfl | rfl | rfl | rfl | rfl | rfl | rfl <;> rfl
  rw [List.getElem?_toArray, e j hj]
  exact hv
/-- An order in a block of its own. -/
def OrdAt (w : World) (X : Nat) (x : Nat → UInt8) : Prop := w.heap[X]? = some (.cells #[.int .u8 ((x 0).toNat : Int), .int .u8 ((x 1).toNat : Int), .int .u8 ((x 2).toNat : Int), .int .u8 ((x 3).toNat : Int)] 63 (0, 0))
theorem OrdAt.below {w w' : World} {X : Nat} {x : Nat → UInt8} (h : OrdAt w X x) (hb : Below w.heap.size w w') : OrdAt w' X x := (hb.block X (Array.getElem?_eq_some_iff.1 h).1).trans h
theorem OrdAt.cell {w : World} {X : Nat} {x : Nat → UInt8} (h : OrdAt w X x) {k : Nat} (hk : k < 4) : w.cell? ⟨X, k, none⟩ = some (.int .u8 ((x k).toNat : Int)) := by
  have : k = 0 ∨ k = 1 ∨ k = 2 ∨ k = 3 := by omega
  rcases this with rfl | rfl | rfl | rfl <;> exact cell_of_row _ X _ _ _ _ h
theorem OrdAt.grown {w w' : World} {X m : Nat} {x : Nat → UInt8} (h : OrdAt w X x) (hm : ∃ es c, w.heap[m]? = some (.map es c)) (hg : w.grownBy w' (some m)) : OrdAt w' X x := by
  refine (hg.block X (Array.getElem?_eq_some_iff.1 h).1 (fun e => ?_)).trans h
  have := Option.some.inj e
  subst this
  obtain ⟨es, c, hm⟩ := hm
  unfold OrdAt at h
  rw [h] at hm
  cases hm

section
variable {H : Type} {enc : TypeId × Value → H} {w : World} {base : Nat} {spare : Nat → Bool} {held : Bool}

theorem okWide_array {P : Program} {w : World} {r : Reach} {base : Nat} {t : TypeId} {v : Value} {n : Nat} {e : TypeId} (ht : P.underlying t = some (.array n e)) (h : Value.okWide P w r base t v) : ∃ cs, v = .agg cs ∧ cs.size = P.cellsOf t := by
  simp only [Value.okWide, ht] at h
  obtain ⟨cs, h1, h2, _⟩ := h
  exact ⟨cs, h1, h2⟩
theorem cell_u8 {n : Nat} {cs : List Value} {off : Nat} {c : Value} {y : Option (DataW H × List MemPlace)} {z : DataW H × List MemPlace} (hz : y = some z) (hc : cs[off]? = some c)
    (h : DataW.trod enc Try.prog w base spare held n 5 ((cs.drop off).take (Try.prog.cellsOf 5)) = y) : ∃ m : UInt8, c = .int .u8 (m.toNat : Int) := by
  rw [hz, show Try.prog.cellsOf 5 = 1 by kernel_rfl] at h
  obtain ⟨m, hm⟩ := one_u8 h
  obtain ⟨hlt, rfl⟩ := List.getElem?_eq_some_iff.1 hc
  rw [List.drop_eq_getElem_cons hlt] at hm
  simp only [List.take_succ_cons, List.take_zero, List.cons.injEq, and_true] at hm
  exact ⟨m, hm⟩
set_option maxRecDepth 100000 in
theorem split3 {l : List Value} (h : l.length = 22) : ∃ a b c l1 l2, l = a :: b :: c :: (l1 ++ l2) ∧ l1.length = 5 ∧ l2.length = 14 := by
  match l, h with
  | a :: b :: c :: r, h => exact ⟨a, b, c, r.take 5, r.drop 5, by rw [List.take_append_drop], by rw [List.length_take]; simp at h; omega, by rw [List.length_drop]; simp at h; omega⟩
set_option maxRecDepth 100000 in
theorem open_deal {fuel : Nat} {cs : List Value} {x : DataW H × List MemPlace} (h : DataW.trod enc Try.prog w base spare held fuel 66 cs = some x) : ∃ d : Dl, cs = dlC d ∧ DlW d := by
  obtain ⟨xs, n, -, rfl, hlen, hxl, hg⟩ := DataW.trod_struct Try.underlying66 h
  rw [show Try.prog.cellsOf 66 = 22 by kernel_rfl] at hlen
  have hxl : xs.length = 5 := hxl
  obtain ⟨c0, c1, c2, l1, l2, rfl, h5, h14⟩ := split3 hlen
  obtain ⟨m0, rfl⟩ := cell_u8 (off := 0) (List.getElem?_eq_getElem (by omega : 0 < xs.length)) rfl (hg 0 _ rfl)
  obtain ⟨m1, rfl⟩ := cell_u8 (off := 1) (List.getElem?_eq_getElem (by omega : 1 < xs.length)) rfl (hg 1 _ rfl)
  obtain ⟨m2, rfl⟩ := cell_u8 (off := 2) (List.getElem?_eq_getElem (by omega : 2 < xs.length)) rfl (hg 2 _ rfl)
  have h3 := hg 3 _ rfl
  rw [List.getElem?_eq_getElem (by omega : 3 < xs.length)] at h3
  have h4 := hg 4 _ rfl
  rw [List.getElem?_eq_getElem (by omega : 4 < xs.length)] at h4
  have e3 : (l1 ++ l2).take 5 = l1 := by rw [← h5]; simp
  have e4 : ((l1 ++ l2).drop 5).take 14 = l2 := by rw [← h5]; simp [← h14]
  have k3 : DataW.trod enc Try.prog w base spare held n 30 ((l1 ++ l2).take 5) = some xs[3] := h3
  have k4 : DataW.trod enc Try.prog w base spare held n 33 (((l1 ++ l2).drop 5).take 14) = some xs[4] := h4
  rw [e3] at k3
  rw [e4] at k4
  obtain ⟨n1, rfl, hn⟩ := open_note k3
  obtain ⟨r1, rfl, hr⟩ := open_cells k4
  exact ⟨⟨m0, m1, m2, n1, r1⟩, rfl, hn, hr⟩
/-- Deals that came in. -/
structure DlsIn (w : World) (A : Option Addr) (l : List Dl) (c : Nat) : Prop where
  rd : Rd w A (dls l)
  ok : ∀ n ∈ l, DlW n
  cap : l.length ≤ c
set_option maxRecDepth 100000 in
theorem open_deals {fuel : Nat} {cs : List Value} {x : DataW H × List MemPlace} (h : DataW.trod enc Try.prog w base spare held fuel 62 cs = some x) (hw : Fit Try.prog 62 x.1) :
    ∃ (A : Option Addr) (l : List Dl) (c : Nat), cs = [.slice A l.length c] ∧ DlsIn w A l c := by
  obtain ⟨A, l, c, rfl, hr, hok, -⟩ := open_rows dlC 22 160 DlW Try.underlying62 (by kernel_rfl) (by omega) (fun _ => rfl) (by kernel_rfl)
    (fun n cs x h _ => open_deal h) h hw
  exact ⟨A, l, c, rfl, hr, hok, cap_le Try.underlying62 h⟩
theorem list4 {l : List Value} (h : l.length = 4) : ∃ a b c d, l = [a, b, c, d] := by
  match l, h with
  | [a, b, c, d], _ => exact ⟨a, b, c, d, rfl⟩
set_option maxRecDepth 100000 in
theorem open_order {fuel : Nat} {cs : List Value} {x : DataW H × List MemPlace} (h : DataW.trod enc Try.prog w base spare held fuel 63 cs = some x) :
    ∃ o : Nat → UInt8, cs = [.int .u8 ((o 0).toNat : Int), .int .u8 ((o 1).toNat : Int), .int .u8 ((o 2).toNat : Int), .int .u8 ((o 3).toNat : Int)] := by
  obtain ⟨ys, m, -, -, hlen, hyl, hy⟩ := DataW.trod_array Try.underlying63 h
  rw [show Try.prog.cellsOf 63 = 4 by kernel_rfl] at hlen
  have e1 : Try.prog.cellsOf 5 = 1 := by kernel_rfl
  obtain ⟨a, b, c, d, rfl⟩ := list4 hlen
  obtain ⟨n0, rfl⟩ := cell_u8 (off := 0) (cs := [a, b, c, d]) (List.getElem?_eq_getElem (by omega : 0 < ys.length)) rfl (by have := hy 0 (by omega); rw [e1] at this ⊢; exact this)
  obtain ⟨n1, rfl⟩ := cell_u8 (off := 1) (cs := [.int .u8 (n0.toNat : Int), b, c, d]) (List.getElem?_eq_getElem (by omega : 1 < ys.length)) rfl (by have := hy 1 (by omega); rw [e1] at this ⊢; exact this)
  obtain ⟨n2, rfl⟩ := cell_u8 (off := 2) (cs := [.int .u8 (n0.toNat : Int), .int .u8 (n1.toNat : Int), c, d]) (List.getElem?_eq_getElem (by omega : 2 < ys.length)) rfl (by have := hy 2 (by omega); rw [e1] at this ⊢; exact this)
  obtain ⟨n3, rfl⟩ := cell_u8 (off := 3) (cs := [.int .u8 (n0.toNat : Int), .int .u8 (n1.toNat : Int), .int .u8 (n2.toNat : Int), d]) (List.getElem?_eq_getElem (by omega : 3 < ys.length)) rfl (by have := hy 3 (by omega); rw [e1] at this ⊢; exact this)
  exact ⟨fun k => if k = 0 then n0 else if k = 1 then n1 else if k = 2 then n2 else n3, rfl⟩
end
end

section
open Go.RowKit Go.Shelf

/-- The records of the books from i on, up to j. -/
def Fr (L : List Bk) (i j : Int) (r : Rc) : Prop := ∃ k, ∃ h : k < L.length, i ≤ (k : Int) ∧ (k : Int) < j ∧ r ∈ L[k].S
theorem fr_all {L : List Bk} {i j : Int} {r : Rc} (hi : i ≤ 0) (hj : (L.length : Int) ≤ j) : Fr L i j r ↔ r ∈ allS L := by
  rw [mem_allS]
  constructor
  · rintro ⟨k, h, -, -, hr⟩
    exact ⟨_, List.getElem_mem h, hr⟩
  · rintro ⟨b, hb, hr⟩
    obtain ⟨k, h, rfl⟩ := List.getElem_of_mem hb
    exact ⟨k, h, by omega, by omega, hr⟩
theorem fr_up {L : List Bk} {i j : Int} {k : Nat} (hk : k < L.length) (hj : (k : Int) = j) (hi : i ≤ j) (r : Rc) : Fr L i (j + 1) r ↔ Fr L i j r ∨ r ∈ L[k].S := by
  constructor
  · rintro ⟨k2, h, h1, h2, hr⟩
    by_cases e : k2 = k
    · subst e
      exact .inr hr
    · exact .inl ⟨k2, h, h1, by omega, hr⟩
  · rintro (⟨k2, h, h1, h2, hr⟩ | hr)
    · exact ⟨k2, h, h1, by omega, hr⟩
    · exact ⟨k, hk, by omega, by omega, hr⟩
theorem fr_dn {L : List Bk} {i j : Int} {k : Nat} (hk : k < L.length) (hj : (k : Int) = i) (hi : i < j) (r : Rc) : Fr L i j r ↔ Fr L (i + 1) j r ∨ r ∈ L[k].S := by
  constructor
  · rintro ⟨k2, h, h1, h2, hr⟩
    by_cases e : k2 = k
    · subst e
      exact .inr hr
    · exact .inl ⟨k2, h, by omega, h2, hr⟩
  · rintro (⟨k2, h, h1, h2, hr⟩ | hr)
    · exact ⟨k2, h, by omega, h2, hr⟩
    · exact ⟨k, hk, by omega, by omega, hr⟩
theorem fr_none {L : List Bk} {i j : Int} {r : Rc} (h : j ≤ i) : ¬ Fr L i j r := fun ⟨k, _, h1, h2, _⟩ => by omega
theorem mem_writeR {S : List Rc} {tab hour sign fld val : Int} {x : Rc} (h : x ∈ (writeR S tab hour sign fld val).2.2) : x ∈ S ∨ x = newR (upT S) tab hour sign fld val := by
  unfold writeR at h
  split at h
  · exact .inl h
  · split at h
    · exact .inl h
    · split at h
      · exact .inl h
      · split at h
        · exact .inl h
        · rcases List.mem_append.1 h with h | h
          · exact .inl h
          · exact .inr (List.mem_singleton.1 h)
theorem mem_addS {S : List Rc} {r x : Rc} (h : x ∈ addS S r) : x ∈ S ∨ x = r := by
  unfold addS at h
  split at h
  · rcases List.mem_append.1 h with h | h
    · exact .inl h
    · exact .inr (List.mem_singleton.1 h)
  · exact .inl h
theorem mem_addS_iff {S : List Rc} {r x : Rc} (hv : rcB r = true) : x ∈ addS S r ↔ x ∈ S ∨ x = r := by
  unfold addS
  split
  · rw [List.mem_append, List.mem_singleton]
  · rename_i h
    constructor
    · exact .inl
    · rintro (h2 | rfl)
      · exact h2
      · exact Classical.byContradiction fun h3 => h ⟨hv, h3⟩
/-- Not more records than deals. -/
def Few (L : List Bk) (n : Nat) : Prop := ∃ U : List Rc, U.length ≤ n ∧ ∀ r ∈ allS L, r ∈ U
theorem Few.more {L : List Bk} {n k : Nat} (h : Few L n) (hk : k < L.length) {T : List Rc} {x : Rc} (hT : ∀ r ∈ T, r ∈ allS L ∨ r = x) : Few (L.set k ⟨L[k].B, L[k].m, T⟩) (n + 1) := by
  obtain ⟨U, hU, hs⟩ := h
  refine ⟨x :: U, by simp; omega, fun r hr => ?_⟩
  rcases mem_allS_set hk hr with h | h
  · rcases hT r h with h | rfl
    · exact List.mem_cons_of_mem _ (hs r h)
    · exact List.mem_cons_self
  · exact List.mem_cons_of_mem _ (hs r h)
theorem Few.same {L : List Bk} {n k : Nat} (h : Few L n) (hk : k < L.length) {T : List Rc} (hT : ∀ r ∈ T, r ∈ allS L) : Few (L.set k ⟨L[k].B, L[k].m, T⟩) (n + 1) := by
  obtain ⟨U, hU, hs⟩ := h
  refine ⟨U, by omega, fun r hr => ?_⟩
  rcases mem_allS_set hk hr with h | h
  · exact hs r (hT r h)
  · exact hs r h
theorem Few.mono {L : List Bk} {n n' : Nat} (h : Few L n) (hn : n ≤ n') : Few L n' := by
  obtain ⟨U, hU, hs⟩ := h
  exact ⟨U, by omega, hs⟩
theorem Few.len {L : List Bk} {n : Nat} (h : Few L n) {S : List Rc} (hn : S.Nodup) (hs : ∀ r ∈ S, r ∈ allS L) : S.length ≤ n := by
  obtain ⟨U, hU, h2⟩ := h
  exact Nat.le_trans (nodup_le hn fun r hr => h2 r (hs r hr)) hU
theorem sub_allS {L : List Bk} {k : Nat} (hk : k < L.length) {r : Rc} (hr : r ∈ L[k].S) : r ∈ allS L := mem_allS.2 ⟨_, List.getElem_mem hk, hr⟩
theorem fr_sub {L : List Bk} {i j : Int} {r : Rc} (h : Fr L i j r) : r ∈ allS L := by
  obtain ⟨k, hk, -, -, hr⟩ := h
  exact sub_allS hk hr
theorem recs_range {w : World} {b off : Nat} {l : List Rc} (h : ∀ j u, (recs l)[j]? = some u → w.cell? ⟨b, off + j, none⟩ = some u) {k : Nat} (hk : k < l.length) {x : Rc} (hx : l[k]'hk = x) : w.rangeAt b (off + k * 14) (rcC x) := fun j v hv => by
  have hj : j < 14 := (List.getElem?_eq_some_iff.1 hv).1
  have e : (recs l)[k * 14 + j]? = (rcC x)[j]? := by rw [← hx]; exact flat_at (f := rcC) (K := 14) (fun _ => rfl) l k j hk hj
  have := h (k * 14 + j) v (e.trans hv)
  rwa [← Nat.add_assoc] at this
theorem addE_yes {S : List Rc} {r : Rc} (hv : rcB r = true) (h : r ∈ S) : addE S r = 22 := by simp [addE, hv, h]
theorem addE_no {S : List Rc} {r : Rc} (hv : rcB r = true) (h : r ∉ S) : addE S r = 0 := by simp [addE, hv, h]
theorem not_m {L : List Bk} {m k : Nat} (h : m ∉ L.map Bk.m) (hk : k < L.length) : m ≠ L[k].m := fun e => h (List.mem_map.2 ⟨_, List.getElem_mem hk, e.symm⟩)
theorem drop_mem {L2 : List Rc} {jj : Nat} (h : jj < L2.length) (r : Rc) : r ∈ L2.drop jj ↔ r ∈ L2.drop (jj + 1) ∨ r = L2[jj] := by
  rw [List.drop_eq_getElem_cons h, List.mem_cons]
  exact Or.comm
theorem u8_mod (x : UInt8) : x.toNat % 4 < 4 := Nat.mod_lt _ (by omega)
theorem u8_tmod (x : UInt8) : Int.tmod (x.toNat : Int) 4 = ((x.toNat % 4 : Nat) : Int) := by
  rw [Int.tmod_eq_emod_of_nonneg (by omega)]
  omega

theorem info_book : (Try.prog.info? 25).map (fun i => (i.zero, i.size, i.bytes)) = some (some (.pointer none), 1, 8) := by kernel_rfl
theorem ptr_news (W : World) (b : Bk) : ∀ j u, ([bkPtr b])[j]? = some u → (W.alloc (.cells #[bkPtr b] 25)).cell? ((⟨W.heap.size, 0, none⟩ : Addr).add j) = some u := by
  intro j u hu
  rw [add_at, Nat.zero_add, World.cell?_alloc_new, ← Array.getElem?_toList]
  exact hu

set_option maxHeartbeats 16000000 in
set_option maxRecDepth 100000 in
theorem ltop_calls (l : List Dl) (A : Option Addr) (c : Nat) (o : Nat → UInt8) (w : World) (h : DlsIn w A l c) :
    Calls Try.prog 8 #[.slice A l.length c, .agg #[.int .u8 ((o 0).toNat : Int), .int .u8 ((o 1).toNat : Int), .int .u8 ((o 2).toNat : Int), .int .u8 ((o 3).toNat : Int)]] w fun e w' => e = .returned (.bool true) ∧ Below w.heap.size w w' := by
  have HRD := hid h.rd
  have HOK := hid h.ok
  have hb0 := below_alloc w (.cells #[.int .u8 ((o 0).toNat : Int), .int .u8 ((o 1).toNat : Int), .int .u8 ((o 2).toNat : Int), .int .u8 ((o 3).toNat : Int)] 63)
  have ho0 := heap_alloc_new w (.cells #[.int .u8 ((o 0).toNat : Int), .int .u8 ((o 1).toNat : Int), .int .u8 ((o 2).toNat : Int), .int .u8 ((o 3).toNat : Int)] 63)
  obtain ⟨i0, hi0, hz0, hz1, hz2⟩ := info_parts info_book
  clear h
  go_enter Try.func8, Try.ntmps8
  go_upto_region 1 with (fail)
  change Code.wp _ _ _ _ (w.alloc (.cells #[.int .u8 ((o 0).toNat : Int), .int .u8 ((o 1).toNat : Int), .int .u8 ((o 2).toNat : Int), .int .u8 ((o 3).toNat : Int)] 63))
  have HO := hid (show OrdAt _ w.heap.size o from ho0)
  have HB := hid hb0
  have HRD := hid ((unhid HRD).below hb0)
  obtain ⟨X0, hX0⟩ : ∃ X0, X0 = w.heap.size := ⟨_, rfl⟩
  have HXE := hid hX0
  rw [← hX0] at HO ⊢
  clear hb0 ho0 hX0
  generalize w.alloc (.cells #[.int .u8 ((o 0).toNat : Int), .int .u8 ((o 1).toNat : Int), .int .u8 ((o 2).toNat : Int), .int .u8 ((o 3).toNat : Int)] 63) = W0 at *
  by_cases h1 : 24 < l.length
  · have hni : (24 : Int) < (l.length : Int) := by omega
    go_wp2_with fail
    refine (joins_calls W0).mono ?_
    rintro e w9 ⟨rfl, hb9⟩
    have HB := hid ((unhid HB).trans (hb9.mono (unhid HB).size))
    clear hb9
    go_wp2_with fail
    go_ret
    exact ⟨rfl, unhid HB⟩
  · have hni : ¬ (24 : Int) < (l.length : Int) := by omega
    have HLL := hid (show l.length ≤ 24 from by omega)
    clear h1
    go_upto_region 5 with (fail)
    go_loopw [6, 5] (fun iv bv wr => ∃ (k : Nat) (L : List Bk), k ≤ 4 ∧ L.length = k ∧ (∀ b ∈ L, b.S = []) ∧ iv = .int .i64 k ∧ Bks W0 L bv wr) (fun iv _ _ => 4 - (intOf iv).toNat)
    case atStart => exact ⟨0, [], by omega, rfl, fun b hb => by simp at hb, rfl, Bks.nil W0⟩
    case round =>
      obtain ⟨k, L, hk, hLk, hS, rfl, hi⟩ := hrel
      have HI := hid hi
      have HLK := hid hLk
      have HS := hid hS
      clear hi hLk hS
      by_cases hlt : k < 4
      · have hki : (k : Int) < 4 := by omega
        have HW1 := hid (show wrap64 ((k : Int) + 1) = ((k + 1 : Nat) : Int) from by unfold wrap64; omega)
        have HK4 := hid (show k + 1 ≤ 4 from by omega)
        go_wp2_with fail
        refine (bookNew_calls wr).mono ?_
        rintro e w1 ⟨rfl, hkb, hb1⟩
        have HKB := hid hkb
        have HB1 := hid hb1
        have hy := ((unhid HI).below hb1).own
        have hlc : L.length ≤ 4 := by have := unhid HLK; omega
        have hsz : W0.heap.size ≤ w1.heap.size := ((unhid HI).below hb1).b.size
        clear hkb hb1
        go_wp2_with (at_builtin; refine wpList_append_own _ rfl _ _ 64 rfl W0.heap.size 25 i0 (.pointer none) 1 8 Try.underlying64 hi0 hz0 hz1 hz2 rfl (by decide) _ _ _ rfl (hy.alloc _) ⟨w1.heap.size, 0, none⟩ 1 1 [bkPtr ⟨wr.heap.size + 1, wr.heap.size, []⟩] rfl rfl (ptr_news w1 _) (by simp [Value.oneCell', bkPtr]) (by unfold maxLen; omega) (by omega) (by simp; omega) ?_; intro v' w6 hown' hgrow hnil)
        have hj := Bks.push (b := ⟨wr.heap.size + 1, wr.heap.size, []⟩) (unhid HI) (unhid HB1) (unhid HKB) rfl hown' hgrow
        have HJ := hid hj
        clear hy hlc hsz hown' hgrow hnil hj HKB HB1
        go_wp2_with fail
        go_roundw
        case rel => exact ⟨k + 1, _, unhid HK4, by rw [List.length_append, List.length_singleton, unhid HLK], fun b hb => (List.mem_append.1 hb).elim (unhid HS b) (fun h => by rw [List.mem_singleton] at h; subst h; rfl), by first | go_num | rw [unhid HW1], unhid HJ⟩
        case measure => first | (simp [intOf] <;> omega) | (rw [unhid HW1]; simp [intOf]; omega)
      · obtain rfl : k = 4 := by omega
        rw [show ((4 : Nat) : Int) = 4 from rfl]
        obtain ⟨A5, c5, hv5, -⟩ := (unhid HI).cell
        rw [unhid HLK] at hv5
        subst hv5
        obtain ⟨b5, o5, hA5, -, -⟩ := (unhid HI).ptr (k := 0) (by rw [unhid HLK]; omega)
        subst hA5
        have HFW := hid (show Few L 0 from ⟨[], Nat.le_refl _, fun r hr => by
          obtain ⟨b, hb, h⟩ := mem_allS.1 hr
          rw [unhid HS b hb] at h
          exact h⟩)
        clear hk hlt HS
        go_upto_region 12 with (fail)
        go_loopw [8] (fun iv wr => ∃ (k : Nat) (L : List Bk), k ≤ l.length ∧ iv = .int .i64 k ∧ L.length = 4 ∧ Few L k ∧ Bks W0 L (.slice (some ⟨b5, o5, none⟩) 4 c5) wr) (fun iv _ => l.length - (intOf iv).toNat)
        case atStart => exact ⟨0, L, Nat.zero_le _, rfl, unhid HLK, unhid HFW, unhid HI⟩
        case round =>
          clear HI HFW HLK
          obtain ⟨k, L, hk, rfl, hL4, hfew, hi⟩ := hrel
          have HL4 := hid hL4
          have HF := hid hfew
          have HI := hid hi
          clear hL4 hfew hi
          by_cases hlt : k < l.length
          · have hki : (k : Int) < (l.length : Int) := by omega
            obtain ⟨b, off, hAe, hbl, hc⟩ := ((unhid HRD).below (unhid HI).b) (dls_ne hlt)
            subst hAe
            obtain ⟨x, hx⟩ : ∃ x, l[k]'hlt = x := ⟨_, rfl⟩
            have HXO := hid (unhid HOK x (hx ▸ List.getElem_mem hlt))
            have HRG := hid (dls_range hc hlt hx)
            have HW1 := hid (show wrap64 ((k : Int) + 1) = ((k + 1 : Nat) : Int) from by have h1 := unhid HLL; unfold wrap64; omega)
            have HKL := hid (show k + 1 ≤ l.length ∧ k + 1 ≤ 24 from by have := unhid HLL; omega)
            clear hc hx
            go_upto_region 15 with (first | (refine wpList_load_mid rfl 66 _ rfl b (off + k * 22) rfl (dlC x) _ (unhid HRG) Try.underlying66 rfl (by kernel_rfl) ?_) | (refine wpList_store_row rfl 66 _ _ rfl wr.heap.size (dlC x).toArray rfl rfl 66 _ (heap_alloc_new wr _) (by kernel_rfl) rfl (dlC_one x) ?_; rw [World.setRow_alloc_new]))
            have hb1 := below_alloc wr (.cells (dlC x).toArray 66)
            have hx1 := heap_alloc_new wr (.cells (dlC x).toArray 66)
            have HI := hid ((unhid HI).below hb1)
            obtain ⟨X, hX⟩ : ∃ X, X = wr.heap.size := ⟨_, rfl⟩
            rw [← hX] at hx1 ⊢
            have HX := hid (show DlAt _ X x from hx1)
            clear hb1 hx1 hX hbl HRG
            change Code.wp _ _ _ _ (wr.alloc (.cells (dlC x).toArray 66))
            generalize wr.alloc (.cells (dlC x).toArray 66) = W2 at *
            have d0 := (unhid HX).cells.1
            have d1 := (unhid HX).cells.2.1
            have d2 := (unhid HX).cells.2.2.1
            have hmb := u8_tmod x.b
            obtain ⟨kb, hkb⟩ : ∃ kb, kb = x.b.toNat % 4 := ⟨_, rfl⟩
            rw [← hkb] at hmb
            have HKB := hid (show kb < L.length from by rw [unhid HL4, hkb]; exact u8_mod _)
            have hkb4 : kb < 4 := by rw [hkb]; exact u8_mod _
            clear hkb
            obtain ⟨hbl5, hc5⟩ := (unhid HI).ptr' (unhid HKB)
            go_upto_region 16 with (fail)
            have hmk := u8_tmod x.k
            obtain ⟨kq, hkq⟩ : ∃ kq, kq = x.k.toNat % 4 := ⟨_, rfl⟩
            rw [← hkq] at hmk
            have hq4 : kq = 0 ∨ kq = 1 ∨ kq = 2 ∨ kq = 3 := by have := u8_mod x.k; omega
            clear hkq
            rcases hq4 with rfl | rfl | rfl | rfl
            · have hmk : Int.tmod (x.k.toNat : Int) 4 = 0 := hmk
              obtain ⟨-, -, -, d3, d4, d5, d6, d7, -⟩ := (unhid HX).cells
              go_upto_region 20 with (fail)
              have hb1 := below_alloc W2 (.cells #[.int .i64 x.n.tab, .int .i64 x.n.hour, .int .i64 x.n.sign, .int .i64 x.n.fld, .int .i64 x.n.val] 30)
              have hn1 := heap_alloc_new W2 (.cells #[.int .i64 x.n.tab, .int .i64 x.n.hour, .int .i64 x.n.sign, .int .i64 x.n.fld, .int .i64 x.n.val] 30)
              have HI := hid ((unhid HI).below hb1)
              obtain ⟨N, hN⟩ : ∃ N, N = W2.heap.size := ⟨_, rfl⟩
              rw [← hN] at hn1 ⊢
              change Code.wp _ _ _ _ (W2.alloc (.cells #[.int .i64 x.n.tab, .int .i64 x.n.hour, .int .i64 x.n.sign, .int .i64 x.n.fld, .int .i64 x.n.val] 30))
              clear hb1 hN d0 d1 d2 d3 d4 d5 d6 d7 hc5 hbl5 HX hmk
              generalize W2.alloc (.cells #[.int .i64 x.n.tab, .int .i64 x.n.hour, .int .i64 x.n.sign, .int .i64 x.n.fld, .int .i64 x.n.val] 30) = W3 at *
              have e0 := cell_of_row W3 N 0 _ _ _ hn1
              have e1 := cell_of_row W3 N 1 _ _ _ hn1
              have e2 := cell_of_row W3 N 2 _ _ _ hn1
              have e3 := cell_of_row W3 N 3 _ _ _ hn1
              have e4 := cell_of_row W3 N 4 _ _ _ hn1
              simp only [List.getElem?_toArray, List.getElem?_cons_zero, List.getElem?_cons_succ] at e0 e1 e2 e3 e4
              clear hn1
              go_wp2_with fail
              have hbk := (unhid HI).at (unhid HKB)
              refine (write_calls x.n.tab x.n.hour x.n.sign x.n.fld x.n.val W3 hbk (by have := (unhid HF).len (RSet.nodup hbk.m) (fun r hr => sub_allS (unhid HKB) hr); omega) (unhid HXO).1.1).mono ?_
              rintro e w4 ⟨rfl, hk4, hg4⟩
              have HI := hid ((unhid HI).write (unhid HKB) hk4 hg4)
              have HF := hid ((unhid HF).more (T := (writeR L[kb].S x.n.tab x.n.hour x.n.sign x.n.fld x.n.val).2.2) (x := newR (upT L[kb].S) x.n.tab x.n.hour x.n.sign x.n.fld x.n.val) (unhid HKB) (fun r hr => (mem_writeR hr).imp (sub_allS (unhid HKB)) id))
              clear hbk hk4 hg4 e0 e1 e2 e3 e4
              go_wp2_with fail
              go_roundw
              case rel => exact ⟨k + 1, _, (unhid HKL).1, by first | go_num | rw [unhid HW1], by rw [List.length_set]; exact unhid HL4, unhid HF, unhid HI⟩
              case measure => first | (simp [intOf] <;> omega) | (rw [unhid HW1]; simp [intOf]; omega)
            · have hmk : Int.tmod (x.k.toNat : Int) 4 = 1 := hmk
              obtain ⟨-, -, -, d3, d4, d5, d6, d7, -⟩ := (unhid HX).cells
              go_upto_region 20 with (fail)
              have hb1 := below_alloc W2 (.cells #[.int .i64 x.n.tab, .int .i64 x.n.hour, .int .i64 x.n.sign, .int .i64 x.n.fld, .int .i64 x.n.val] 30)
              have hn1 := heap_alloc_new W2 (.cells #[.int .i64 x.n.tab, .int .i64 x.n.hour, .int .i64 x.n.sign, .int .i64 x.n.fld, .int .i64 x.n.val] 30)
              have HI := hid ((unhid HI).below hb1)
              obtain ⟨N, hN⟩ : ∃ N, N = W2.heap.size := ⟨_, rfl⟩
              rw [← hN] at hn1 ⊢
              change Code.wp _ _ _ _ (W2.alloc (.cells #[.int .i64 x.n.tab, .int .i64 x.n.hour, .int .i64 x.n.sign, .int .i64 x.n.fld, .int .i64 x.n.val] 30))
              clear hb1 hN d0 d1 d2 d3 d4 d5 d6 d7 hc5 hbl5 HX hmk
              generalize W2.alloc (.cells #[.int .i64 x.n.tab, .int .i64 x.n.hour, .int .i64 x.n.sign, .int .i64 x.n.fld, .int .i64 x.n.val] 30) = W3 at *
              have e0 := cell_of_row W3 N 0 _ _ _ hn1
              have e1 := cell_of_row W3 N 1 _ _ _ hn1
              have e2 := cell_of_row W3 N 2 _ _ _ hn1
              have e3 := cell_of_row W3 N 3 _ _ _ hn1
              have e4 := cell_of_row W3 N 4 _ _ _ hn1
              simp only [List.getElem?_toArray, List.getElem?_cons_zero, List.getElem?_cons_succ] at e0 e1 e2 e3 e4
              clear hn1
              go_wp2_with fail
              have hbk := (unhid HI).at (unhid HKB)
              refine (write_calls x.n.tab x.n.hour x.n.sign x.n.fld x.n.val W3 hbk (by have := (unhid HF).len (RSet.nodup hbk.m) (fun r hr => sub_allS (unhid HKB) hr); omega) (unhid HXO).1.1).mono ?_
              rintro e w4 ⟨rfl, hk4, hg4⟩
              have HI := hid ((unhid HI).write (unhid HKB) hk4 hg4)
              have HF := hid ((unhid HF).more (T := (writeR L[kb].S x.n.tab x.n.hour x.n.sign x.n.fld x.n.val).2.2) (x := newR (upT L[kb].S) x.n.tab x.n.hour x.n.sign x.n.fld x.n.val) (unhid HKB) (fun r hr => (mem_writeR hr).imp (sub_allS (unhid HKB)) id))
              clear hbk hk4 hg4 e0 e1 e2 e3 e4
              go_wp2_with fail
              go_roundw
              case rel => exact ⟨k + 1, _, (unhid HKL).1, by first | go_num | rw [unhid HW1], by rw [List.length_set]; exact unhid HL4, unhid HF, unhid HI⟩
              case measure => first | (simp [intOf] <;> omega) | (rw [unhid HW1]; simp [intOf]; omega)
            · have hmk : Int.tmod (x.k.toNat : Int) 4 = 2 := hmk
              have hmo := u8_tmod x.o
              obtain ⟨ko, hko⟩ : ∃ ko, ko = x.o.toNat % 4 := ⟨_, rfl⟩
              rw [← hko] at hmo
              have HKO := hid (show ko < L.length from by rw [unhid HL4, hko]; exact u8_mod _)
              have hko4 : ko < 4 := by rw [hko]; exact u8_mod _
              clear hko hc5
              obtain ⟨hbl6, hc6⟩ := (unhid HI).ptr' (unhid HKO)
              by_cases hkk : kb = ko
              · subst hkk
                have hbk := (unhid HI).at (unhid HKB)
                have HBK := hid hbk
                clear hbk
                go_wp2_with fail
                refine (selfJoin_calls W2 (unhid HBK) (by have := (unhid HF).len (RSet.nodup (unhid HBK).m) (fun r hr => sub_allS (unhid HKB) hr); omega)).mono ?_
                rintro e w4 ⟨rfl, hb4⟩
                have HI := hid ((unhid HI).below hb4)
                clear hb4 d0 d1 d2 hmk hmb hmo hc6 hbl5 hbl6 HX HBK
                go_wp2_with fail
                go_roundw
                case rel => exact ⟨k + 1, _, (unhid HKL).1, by first | go_num | rw [unhid HW1], unhid HL4, (unhid HF).mono (Nat.le_succ k), unhid HI⟩
                case measure => first | (simp [intOf] <;> omega) | (rw [unhid HW1]; simp [intOf]; omega)
              · have HKK := hid hkk
                clear hkk
                go_wp2_with fail
                have hbk := (unhid HI).at (unhid HKB)
                have hbo := (unhid HI).at (unhid HKO)
                refine (join_calls W2 hbk hbo (fun e => unhid HKK (map_inj_of_nodup (unhid HI).nd (unhid HKB) (unhid HKO) e)) (by
                  have h1 := (unhid HF).len (RSet.nodup hbk.m) (fun r hr => sub_allS (unhid HKB) hr)
                  have h2 := (unhid HF).len (RSet.nodup hbo.m) (fun r hr => sub_allS (unhid HKO) hr)
                  omega)).mono ?_
                rintro e w4 ⟨T, rfl, hk4, hm4, -, hg4⟩
                have HI := hid ((unhid HI).write (unhid HKB) hk4 hg4)
                have HF := hid ((unhid HF).same (unhid HKB) (fun r hr => ((hm4 r).1 hr).elim (sub_allS (unhid HKB)) (sub_allS (unhid HKO))))
                clear hbk hbo hk4 hm4 hg4 d0 d1 d2 hmk hmb hmo hc6 hbl5 hbl6 HX
                go_wp2_with fail
                go_roundw
                case rel => exact ⟨k + 1, _, (unhid HKL).1, by first | go_num | rw [unhid HW1], by rw [List.length_set]; exact unhid HL4, unhid HF, unhid HI⟩
                case measure => first | (simp [intOf] <;> omega) | (rw [unhid HW1]; simp [intOf]; omega)
            · have hmk : Int.tmod (x.k.toNat : Int) 4 = 3 := hmk
              have HRG := hid (unhid HX).range
              go_wp2_with (refine wpList_load_mid rfl 33 _ rfl X 8 rfl (rcC x.r) _ (unhid HRG) Try.underlying33 rfl (by kernel_rfl) ?_)
              have hbk := (unhid HI).at (unhid HKB)
              refine (add_calls x.r W2 hbk (by have := (unhid HF).len (RSet.nodup hbk.m) (fun r hr => sub_allS (unhid HKB) hr); omega)).mono ?_
              rintro e w4 ⟨rfl, hk4, hg4⟩
              have HI := hid ((unhid HI).write (unhid HKB) hk4 hg4)
              have HF := hid ((unhid HF).more (T := addS L[kb].S x.r) (x := x.r) (unhid HKB) (fun r hr => (mem_addS hr).imp (sub_allS (unhid HKB)) id))
              clear hbk hk4 hg4 d0 d1 d2 hmk hmb hc5 hbl5 HX HRG
              go_wp2_with fail
              go_roundw
              case rel => exact ⟨k + 1, _, (unhid HKL).1, by first | go_num | rw [unhid HW1], by rw [List.length_set]; exact unhid HL4, unhid HF, unhid HI⟩
              case measure => first | (simp [intOf] <;> omega) | (rw [unhid HW1]; simp [intOf]; omega)
          · obtain rfl : k = l.length := by omega
            clear hk hlt
            have HFW := hid ((unhid HF).mono (unhid HLL))
            clear HF
            go_wp2_with fail
            refine (bookNew_calls wr).mono ?_
            rintro e w1 ⟨rfl, hk1, hb1⟩
            have HN1 := hid (⟨hk1, hb1⟩ : _ ∧ _)
            clear hk1 hb1
            go_wp2_with fail
            refine (bookNew_calls w1).mono ?_
            rintro e w2 ⟨rfl, hk2, hb2⟩
            have HN2 := hid (⟨hk2, hb2⟩ : _ ∧ _)
            clear hk2 hb2
            go_wp2_with fail
            refine (bookNew_calls w2).mono ?_
            rintro e w3 ⟨rfl, hk3, hb3⟩
            have HT := hid (Tri.made (unhid HI) (unhid HN1).1 (unhid HN1).2 (unhid HN2).1 (unhid HN2).2 hk3 hb3)
            clear hk3 hb3 HN1 HN2 HI
            obtain ⟨oB, hoB⟩ : ∃ oB, oB = wr.heap.size + 1 := ⟨_, rfl⟩
            obtain ⟨tB, htB⟩ : ∃ tB, tB = w1.heap.size + 1 := ⟨_, rfl⟩
            obtain ⟨aB, haB⟩ : ∃ aB, aB = w2.heap.size + 1 := ⟨_, rfl⟩
            obtain ⟨om, hom⟩ : ∃ om, om = wr.heap.size := ⟨_, rfl⟩
            obtain ⟨tm, htm⟩ : ∃ tm, tm = w1.heap.size := ⟨_, rfl⟩
            obtain ⟨am, ham⟩ : ∃ am, am = w2.heap.size := ⟨_, rfl⟩
            rw [← hoB, ← htB, ← haB] at HT ⊢
            rw [← hom, ← htm, ← ham] at HT
            clear hoB htB haB hom htm ham
            go_upto_region 29 with (fail)
            go_loopw [17] (fun iv wr => ∃ (i : Nat) (S1 S3 : List Rc), i ≤ 4 ∧ iv = .int .i64 i ∧ Tri W0 L (.slice (some ⟨b5, o5, none⟩) 4 c5) ⟨oB, om, S1⟩ ⟨tB, tm, []⟩ ⟨aB, am, S3⟩ wr ∧ (∀ r, r ∈ S1 ↔ Fr L 0 i r) ∧ (∀ r, r ∈ S3 ↔ Fr L (4 - i) 4 r)) (fun iv _ => 4 - (intOf iv).toNat)
            case atStart => exact ⟨0, [], [], by omega, rfl, unhid HT, fun r => ⟨fun h => by simp at h, fun h => absurd h (fr_none (by omega))⟩, fun r => ⟨fun h => by simp at h, fun h => absurd h (fr_none (by omega))⟩⟩
            case round =>
              clear HT
              obtain ⟨i, S1, S3, hi4, rfl, ht, hs1, hs3⟩ := hrel
              have HT := hid ht
              have HS1 := hid hs1
              have HS3 := hid hs3
              clear ht hs1 hs3
              by_cases hlt : i < 4
              · have hki : (i : Int) < 4 := by omega
                have HW1 := hid (show wrap64 ((i : Int) + 1) = ((i + 1 : Nat) : Int) from by unfold wrap64; omega)
                have HK4 := hid (show i + 1 ≤ 4 from by omega)
                have HIL := hid (show i < L.length from by rw [unhid HL4]; exact hlt)
                obtain ⟨hbl5, hc5⟩ := (unhid HT).bs.ptr' (unhid HIL)
                go_wp2_with fail
                have hko := (unhid HT).ko
                have hbk := (unhid HT).bs.at (unhid HIL)
                refine (join_calls wr hko hbk (not_m (unhid HT).no.1 (unhid HIL)) (by
                  have h1 := (unhid HFW).len (RSet.nodup hko.m) (fun r hr => fr_sub ((unhid HS1 r).1 hr))
                  have h2 := (unhid HFW).len (RSet.nodup hbk.m) (fun r hr => sub_allS (unhid HIL) hr)
                  omega)).mono ?_
                rintro e w4 ⟨T, rfl, hk4, hm4, -, hg4⟩
                have HT := hid ((unhid HT).wo hk4 hg4)
                have HS1 := hid (show ∀ r, r ∈ T ↔ Fr L 0 ((i + 1 : Nat) : Int) r from fun r => by
                  rw [hm4 r, show ((i + 1 : Nat) : Int) = (i : Int) + 1 by omega, fr_up (unhid HIL) rfl (by omega), unhid HS1 r])
                clear hko hbk hk4 hm4 hg4 hc5 hbl5
                obtain ⟨j3, hj3⟩ : ∃ j3 : Nat, (3 : Int) - (i : Int) = (j3 : Int) := ⟨3 - i, by omega⟩
                have hw3 : wrap64 ((3 : Int) - (i : Int)) = (j3 : Int) := by unfold wrap64; omega
                have hj4 : j3 < 4 := by omega
                have HJ3 := hid (show j3 < L.length from by rw [unhid HL4]; exact hj4)
                have HJE := hid (show (j3 : Int) = 3 - (i : Int) from hj3.symm)
                obtain ⟨hbl6, hc6⟩ := (unhid HT).bs.ptr' (unhid HJ3)
                go_wp2_with fail
                have hbk := (unhid HT).bs.at (unhid HJ3)
                have HLJ := hid ((unhid HFW).len (RSet.nodup hbk.m) (fun r hr => sub_allS (unhid HJ3) hr))
                refine (records_calls w4 hbk (by have := unhid HLJ; omega)).mono ?_
                rintro e w5 ⟨v, L2, rfl, hp, -, hrow, hb5⟩
                have HLL2 := hid (show L2.length ≤ 24 from by rw [hp.length_eq]; exact unhid HLJ)
                have HL2V := hid (show ∀ r ∈ L2, rcB r = true from fun r hr => hbk.v r (hp.mem_iff.1 hr))
                have HL2M := hid (fun r => hp.mem_iff (a := r))
                obtain ⟨Al, cl, rfl, -, -⟩ := own_slice hrow
                have HRW := hid hrow
                have HT := hid ((unhid HT).below hb5)
                clear hbk hp hrow hb5 hc6 hbl6 hw3 hj3 HLJ
                have hl24 : (L2.length : Int) ≤ 24 := by have := unhid HLL2; omega
                have hl0 : (0 : Int) ≤ (L2.length : Int) := by omega
                go_upto_region 36 with (fail)
                clear hl24 hl0
                go_loopw [21] (fun kv w6 => ∃ (j : Nat) (S4 : List Rc), j ≤ L2.length ∧ kv = .int .i64 ((j : Int) - 1) ∧ w6.ownsRow w4.heap.size 33 14 (.slice Al L2.length cl) L2.length (recs L2) ∧ Tri W0 L (.slice (some ⟨b5, o5, none⟩) 4 c5) ⟨oB, om, T⟩ ⟨tB, tm, []⟩ ⟨aB, am, S4⟩ w6 ∧ (∀ r, r ∈ S4 ↔ r ∈ S3 ∨ r ∈ L2.drop j)) (fun kv _ => (intOf kv + 1).toNat)
                case atStart => exact ⟨L2.length, S3, Nat.le_refl _, rfl, unhid HRW, unhid HT, fun r => by simp⟩
                case round =>
                  clear HRW HT
                  obtain ⟨j, S4, hj, rfl, hrw, ht, hs4⟩ := hrel
                  have HRW := hid hrw
                  have HT := hid ht
                  have HS4 := hid hs4
                  clear hrw ht hs4
                  by_cases hj0 : 0 < j
                  · obtain ⟨jj, rfl⟩ : ∃ jj, j = jj + 1 := ⟨j - 1, by omega⟩
                    rw [show (((jj + 1 : Nat) : Int) - 1) = (jj : Int) from by omega]
                    have hjl : jj < L2.length := by omega
                    have hji : (0 : Int) ≤ (jj : Int) := by omega
                    have HJJ := hid (show wrap64 ((jj : Int) - 1) = (jj : Int) - 1 from by have := unhid HLL2; unfold wrap64; omega)
                    obtain ⟨x, hx⟩ : ∃ x, L2[jj]'hjl = x := ⟨_, rfl⟩
                    have HXV := hid (unhid HL2V x (hx ▸ List.getElem_mem hjl))
                    have HDM := hid (show ∀ r, r ∈ L2.drop jj ↔ r ∈ L2.drop (jj + 1) ∨ r = x from fun r => by rw [drop_mem hjl, hx])
                    obtain ⟨Al', cl', hv, hrd, -⟩ := own_slice (unhid HRW)
                    injection hv with hv1 hv2 hv3
                    subst hv1 hv3
                    obtain ⟨b, off, hAe, hbl, hc⟩ := hrd (recs_ne hjl)
                    subst hAe
                    have HRG := hid (recs_range hc hjl hx)
                    clear hx hrd hc hv2
                    go_wp2_with (refine wpList_load_mid rfl 33 _ rfl b (off + jj * 14) rfl (rcC x) _ (unhid HRG) Try.underlying33 rfl (by kernel_rfl) ?_)
                    have hka : BkAt wr aB am S4 := (unhid HT).ka
                    have HS4L := hid (show S4.length ≤ 24 from (unhid HFW).len (RSet.nodup hka.m) (fun r hr => ((unhid HS4 r).1 hr).elim (fun h => fr_sub ((unhid HS3 r).1 h)) (fun h => sub_allS (unhid HJ3) ((unhid HL2M r).1 (List.mem_of_mem_drop h)))))
                    refine (add_calls x wr hka (by have := unhid HS4L; omega)).mono ?_
                    rintro e w7 ⟨rfl, hk7, hg7⟩
                    have HT' := hid ((unhid HT).wa hk7 hg7)
                    have HRW := hid (own_beside (unhid HRW) hka hg7)
                    have HS5 := hid (show ∀ r, r ∈ addS S4 x ↔ r ∈ S3 ∨ r ∈ L2.drop jj from fun r => by
                      rw [mem_addS_iff (unhid HXV), unhid HS4 r, unhid HDM r, or_assoc])
                    clear hk7 hg7 hka HRG hbl
                    by_cases hin : x ∈ S4
                    · rw [addE_yes (unhid HXV) hin]
                      clear hin HT
                      go_wp2_with fail
                      go_roundw
                      case rel => exact ⟨jj, _, Nat.le_of_lt hjl, by first | go_num | rw [unhid HJJ], unhid HRW, unhid HT', unhid HS5⟩
                      case measure => first | (simp [intOf]; done) | (simp [intOf]; omega) | (rw [unhid HJJ]; simp [intOf]; done) | (rw [unhid HJJ]; simp [intOf]; omega)
                    · rw [addE_no (unhid HXV) hin]
                      clear hin HT
                      go_wp2_with fail
                      go_roundw
                      case rel => exact ⟨jj, _, Nat.le_of_lt hjl, by first | go_num | rw [unhid HJJ], unhid HRW, unhid HT', unhid HS5⟩
                      case measure => first | (simp [intOf]; done) | (simp [intOf]; omega) | (rw [unhid HJJ]; simp [intOf]; done) | (rw [unhid HJJ]; simp [intOf]; omega)
                  · obtain rfl : j = 0 := by omega
                    rw [show ((0 : Nat) : Int) - 1 = -1 from rfl]
                    have HS5 := hid (show ∀ r, r ∈ S4 ↔ Fr L (4 - ((i + 1 : Nat) : Int)) 4 r from fun r => by
                      rw [unhid HS4 r, unhid HS3 r, List.drop_zero, unhid HL2M r, show 4 - ((i + 1 : Nat) : Int) = 3 - (i : Int) by omega, fr_dn (unhid HJ3) (unhid HJE) (by omega), show 3 - (i : Int) + 1 = 4 - (i : Int) by omega])
                    clear hj hj0 HRW
                    go_wp2_with fail
                    go_roundw
                    case rel => exact ⟨i + 1, _, _, unhid HK4, by first | go_num | rw [unhid HW1], unhid HT, unhid HS1, unhid HS5⟩
                    case measure => first | (simp [intOf] <;> omega) | (rw [unhid HW1]; simp [intOf]; omega)
              · obtain rfl : i = 4 := by omega
                rw [show ((4 : Nat) : Int) = 4 from rfl]
                have HS1 := hid (show ∀ r, r ∈ S1 ↔ r ∈ allS L from fun r => by rw [unhid HS1 r]; exact fr_all (by omega) (by rw [unhid HL4]; omega))
                have HS3 := hid (show ∀ r, r ∈ S3 ↔ r ∈ allS L from fun r => by rw [unhid HS3 r]; exact fr_all (by omega) (by rw [unhid HL4]; omega))
                clear hi4 hlt
                go_upto_region 42 with (fail)
                go_loopw [23] (fun iv wr => ∃ (i : Nat) (S2 : List Rc), i ≤ 4 ∧ iv = .int .i64 i ∧ Tri W0 L (.slice (some ⟨b5, o5, none⟩) 4 c5) ⟨oB, om, S1⟩ ⟨tB, tm, S2⟩ ⟨aB, am, S3⟩ wr ∧ ∀ r ∈ S2, r ∈ allS L) (fun iv _ => 4 - (intOf iv).toNat)
                case atStart => exact ⟨0, [], by omega, rfl, unhid HT, fun r hr => by simp at hr⟩
                case round =>
                  clear HT
                  obtain ⟨i, S2, hi4, rfl, ht, hs2⟩ := hrel
                  have HT := hid ht
                  have HS2 := hid hs2
                  clear ht hs2
                  by_cases hlt : i < 4
                  · have hki : (i : Int) < 4 := by omega
                    have HW1 := hid (show wrap64 ((i : Int) + 1) = ((i + 1 : Nat) : Int) from by unfold wrap64; omega)
                    have HK4 := hid (show i + 1 ≤ 4 from by omega)
                    have hoc := ((unhid HO).below (unhid HT).bs.b).cell hlt
                    obtain ⟨q, hq⟩ : ∃ q, q = o i := ⟨_, rfl⟩
                    rw [← hq] at hoc
                    have hmq := u8_tmod q
                    obtain ⟨kq, hkq⟩ : ∃ kq, kq = q.toNat % 4 := ⟨_, rfl⟩
                    rw [← hkq] at hmq
                    have HKQ := hid (show kq < L.length from by rw [unhid HL4, hkq]; exact u8_mod _)
                    have hkq4 : kq < 4 := by rw [hkq]; exact u8_mod _
                    clear hkq hq
                    obtain ⟨hbl5, hc5⟩ := (unhid HT).bs.ptr' (unhid HKQ)
                    go_wp2_with fail
                    have hkt := (unhid HT).kt
                    have hbk := (unhid HT).bs.at (unhid HKQ)
                    refine (join_calls wr hkt hbk (not_m (unhid HT).no.2.1 (unhid HKQ)) (by
                      have h1 := (unhid HFW).len (RSet.nodup hkt.m) (unhid HS2)
                      have h2 := (unhid HFW).len (RSet.nodup hbk.m) (fun r hr => sub_allS (unhid HKQ) hr)
                      omega)).mono ?_
                    rintro e w4 ⟨T, rfl, hk4, hm4, -, hg4⟩
                    have HT := hid ((unhid HT).wt hk4 hg4)
                    have HS2 := hid (show ∀ r ∈ T, r ∈ allS L from fun r hr => ((hm4 r).1 hr).elim (unhid HS2 r) (sub_allS (unhid HKQ)))
                    clear hkt hbk hk4 hm4 hg4 hc5 hbl5 hoc hmq
                    go_wp2_with fail
                    go_roundw
                    case rel => exact ⟨i + 1, _, unhid HK4, by first | go_num | rw [unhid HW1], unhid HT, unhid HS2⟩
                    case measure => first | (simp [intOf]; done) | (simp [intOf]; omega) | (rw [unhid HW1]; simp [intOf]; omega)
                  · obtain rfl : i = 4 := by omega
                    rw [show ((4 : Nat) : Int) = 4 from rfl]
                    clear hi4 hlt
                    have HI3 := hid (show 3 < L.length from by rw [unhid HL4]; omega)
                    obtain ⟨hbl5, hc5⟩ := (unhid HT).bs.ptr' (unhid HI3)
                    go_upto_region 49 with (fail)
                    clear hbl5 hc5
                    go_loopw [27, 26] (fun iv lv w6 => ∃ (i : Nat) (lb : Bk), i ≤ 3 ∧ iv = .int .i64 ((i : Int) - 1) ∧ lv = .pointer (some ⟨lb.B, 0, none⟩) ∧ Tri W0 L (.slice (some ⟨b5, o5, none⟩) 4 c5) ⟨oB, om, S1⟩ ⟨tB, tm, S2⟩ ⟨aB, am, S3⟩ w6 ∧ BkAt w6 lb.B lb.m lb.S ∧ lb.m ≠ tm ∧ (∀ r, r ∈ lb.S ↔ Fr L i 4 r)) (fun iv _ _ => (intOf iv + 1).toNat)
                    case atStart => exact ⟨3, L[3]'(unhid HI3), by omega, rfl, rfl, unhid HT, (unhid HT).bs.at (unhid HI3), (not_m (unhid HT).no.2.1 (unhid HI3)).symm, fun r => ⟨fun h => ⟨3, unhid HI3, by omega, by omega, h⟩, fun ⟨k, hk, h1, h2, hr⟩ => by
                      obtain rfl : k = 3 := by omega
                      exact hr⟩⟩
                    case round =>
                      clear HT
                      obtain ⟨i, lb, hi3, rfl, rfl, ht, hlb, hlm, hls⟩ := hrel
                      have HT := hid ht
                      have HLB := hid hlb
                      have HLM := hid hlm
                      have HLS := hid hls
                      clear ht hlb hlm hls
                      by_cases hi0 : 0 < i
                      · obtain ⟨ii, rfl⟩ : ∃ ii, i = ii + 1 := ⟨i - 1, by omega⟩
                        rw [show (((ii + 1 : Nat) : Int) - 1) = (ii : Int) from by omega]
                        have hii4 : ii < 4 := by omega
                        have HII := hid (show ii < L.length from by rw [unhid HL4]; exact hii4)
                        have HJJ := hid (show wrap64 ((ii : Int) - 1) = (ii : Int) - 1 from by unfold wrap64; omega)
                        have HI33 := hid (show ii ≤ 3 from by omega)
                        have hji : (0 : Int) ≤ (ii : Int) := by omega
                        obtain ⟨hbl5, hc5⟩ := (unhid HT).bs.ptr' (unhid HII)
                        go_wp2_with fail
                        have hbk := (unhid HT).bs.at (unhid HII)
                        have HLI := hid ((unhid HFW).len (RSet.nodup hbk.m) (fun r hr => sub_allS (unhid HII) hr))
                        refine (pcopy_calls wr hbk).mono ?_
                        rintro e w4 ⟨rfl, hk4, hb4⟩
                        have HLB4 := hid ((unhid HLB).below' hb4)
                        have HC4 := hid hk4
                        have HB4 := hid hb4
                        have HLL4 := hid ((unhid HFW).len (RSet.nodup (unhid HLB).m) (fun r hr => fr_sub ((unhid HLS r).1 hr)))
                        have HMM := hid (show wr.heap.size ≠ lb.m ∧ wr.heap.size ≠ tm from ⟨by have := (unhid HLB).lt.2; omega, by have := (unhid HT).kt.lt.2; dsimp only at this; omega⟩)
                        clear hbk hk4 hb4 hbl5 hc5
                        go_wp2_with fail
                        refine (join_calls w4 (unhid HC4) (unhid HLB4) (unhid HMM).1 (by have := unhid HLI; have := unhid HLL4; omega)).mono ?_
                        rintro e w5 ⟨T, rfl, hk5, hm5, -, hg5⟩
                        have HT := hid ((unhid HT).new (unhid HB4) (unhid HC4) (Nat.le_refl _) hg5)
                        have HLB := hid hk5
                        have HLS := hid (show ∀ r, r ∈ T ↔ Fr L (ii : Nat) 4 r from fun r => by
                          rw [hm5 r, unhid HLS r, fr_dn (unhid HII) rfl (by omega), show ((ii + 1 : Nat) : Int) = (ii : Int) + 1 by omega]
                          exact Or.comm)
                        clear hk5 hm5 hg5 HC4 HB4 HLB4 HLL4 HLI
                        go_wp2_with fail
                        go_roundw
                        case rel => exact ⟨ii, ⟨wr.heap.size + 1, wr.heap.size, T⟩, unhid HI33, by first | go_num | rw [unhid HJJ], rfl, unhid HT, unhid HLB, (unhid HMM).2, unhid HLS⟩
                        case measure => first | (simp [intOf]; done) | (simp [intOf]; omega) | (rw [unhid HJJ]; simp [intOf]; done) | (rw [unhid HJJ]; simp [intOf]; omega)
                      · obtain rfl : i = 0 := by omega
                        rw [show ((0 : Nat) : Int) - 1 = -1 from rfl]
                        have HLS := hid (show ∀ r, r ∈ lb.S ↔ r ∈ allS L from fun r => by rw [unhid HLS r]; exact fr_all (by omega) (by rw [unhid HL4]; omega))
                        clear hi3 hi0
                        go_wp2_with fail
                        have hkt := (unhid HT).kt
                        refine (join_calls wr hkt (unhid HLB) (fun e => unhid HLM e.symm) (by
                          have h1 := (unhid HFW).len (RSet.nodup hkt.m) (unhid HS2)
                          have h2 := (unhid HFW).len (RSet.nodup (unhid HLB).m) (fun r hr => (unhid HLS r).1 hr)
                          omega)).mono ?_
                        rintro e w4 ⟨T, rfl, hk4, hm4, -, hg4⟩
                        have HLB := hid (bk_beside (unhid HLB) hkt hg4 (unhid HLM))
                        have HT := hid ((unhid HT).wt hk4 hg4)
                        have HST := hid (show ∀ r, r ∈ T ↔ r ∈ allS L from fun r => by
                          rw [hm4 r, unhid HLS r]
                          exact ⟨fun h => h.elim (unhid HS2 r) id, .inr⟩)
                        clear hkt hk4 hm4 hg4
                        obtain ⟨M, hM⟩ : ∃ M, M = setR (allS L) := ⟨_, rfl⟩
                        have HMA := hid (show Asc M from by rw [hM]; exact asc_setR _)
                        have HMM := hid (show ∀ r, r ∈ M ↔ r ∈ allS L from fun r => by rw [hM]; exact mem_setR)
                        have HMN := hid ((unhid HMA).nodup)
                        have HML := hid (show M.length < 40 from by have := (unhid HFW).len (unhid HMN) (fun r hr => (unhid HMM r).1 hr); omega)
                        have HKO := hid (bk_to (unhid HT).ko (unhid HMN) (fun r => by rw [unhid HMM r]; exact unhid HS1 r))
                        have HKT := hid (bk_to (unhid HT).kt (unhid HMN) (fun r => by rw [unhid HMM r]; exact unhid HST r))
                        have HKA := hid (bk_to (unhid HT).ka (unhid HMN) (fun r => by rw [unhid HMM r]; exact unhid HS3 r))
                        have HKL := hid (bk_to (unhid HLB) (unhid HMN) (fun r => by rw [unhid HMM r]; exact unhid HLS r))
                        have HB := hid ((unhid HB).trans ((unhid HT).bs.b.mono (unhid HB).size))
                        clear hM
                        go_wp2_with fail
                        refine (alike_calls w4 (unhid HKO) (unhid HKA) (unhid HMA) (unhid HML)).mono ?_
                        rintro e w5 ⟨rfl, hb5⟩
                        have HKT := hid ((unhid HKT).below' hb5)
                        have HKA := hid ((unhid HKA).below' hb5)
                        have HKL := hid ((unhid HKL).below' hb5)
                        have HB := hid ((unhid HB).trans (hb5.mono (unhid HB).size))
                        clear hb5
                        go_wp2_with fail
                        refine (alike_calls w5 (unhid HKT) (unhid HKA) (unhid HMA) (unhid HML)).mono ?_
                        rintro e w6 ⟨rfl, hb6⟩
                        have HKA := hid ((unhid HKA).below' hb6)
                        have HKL := hid ((unhid HKL).below' hb6)
                        have HB := hid ((unhid HB).trans (hb6.mono (unhid HB).size))
                        clear hb6
                        go_wp2_with fail
                        refine (alike_calls w6 (unhid HKL) (unhid HKA) (unhid HMA) (unhid HML)).mono ?_
                        rintro e w7 ⟨rfl, hb7⟩
                        have HB := hid ((unhid HB).trans (hb7.mono (unhid HB).size))
                        clear hb7
                        go_wp2_with fail
                        refine (joins_calls w7).mono ?_
                        rintro e w8 ⟨rfl, hb8⟩
                        have HB := hid ((unhid HB).trans (hb8.mono (unhid HB).size))
                        clear hb8
                        go_wp2_with fail
                        go_ret
                        exact ⟨rfl, unhid HB⟩
end

end Go.Proofs.Ytegghimjmbgghaa
