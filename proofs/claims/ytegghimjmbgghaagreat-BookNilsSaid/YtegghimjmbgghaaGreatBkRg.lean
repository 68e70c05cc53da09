/-
  The reference's book: Made, Add.
-/
import Derived.Test.YtegghimjmbgghaaGreatBkSe
import Derived.Test.YtegghimjmbgghaaGreatBkN
set_option linter.unusedSimpArgs false
set_option linter.unusedVariables false
namespace Go.Proofs.YtegghimjmbgghaaGreat
open Go.RowKit Go.Shelf

/-! ### Plain -/
theorem len_ins (r : Rc) (L : List Rc) : (ins r L).length = L.length + 1 := by
  have := fnd_le r L
  unfold ins
  rw [List.length_append, List.length_cons, List.length_take, List.length_drop]
  omega
theorem len_addR (r : Rc) (L : List Rc) : (addR r L).length ≤ L.length + 1 := by
  unfold addR
  split
  · omega
  · rw [len_ins]; omega
theorem valid_addR {r : Rc} {L : List Rc} (hr : rcB r = true) (hv : ∀ q ∈ L, rcB q = true) : ∀ q ∈ addR r L, rcB q = true := fun q hq => by
  rcases mem_addR.1 hq with rfl | h
  · exact hr
  · exact hv q h
/-- The records of a list, in their order, each once. -/
def setR (l : List Rc) : List Rc := l.foldl (fun L r => addR r L) []
theorem setR_snoc (l : List Rc) (r : Rc) : setR (l ++ [r]) = addR r (setR l) := by simp [setR, List.foldl_append]
theorem setR_all : ∀ (l : List Rc) (L : List Rc), Asc L → Asc (l.foldl (fun L r => addR r L) L) ∧ (∀ x, x ∈ l.foldl (fun L r => addR r L) L ↔ x ∈ l ∨ x ∈ L) ∧ (l.foldl (fun L r => addR r L) L).length ≤ L.length + l.length
  | [], L, h => ⟨h, fun x => by simp, by simp⟩
  | r :: l, L, h => by
    obtain ⟨h1, h2, h3⟩ := setR_all l (addR r L) (asc_addR h)
    refine ⟨h1, fun x => ?_, ?_⟩
    · rw [List.foldl_cons, h2, mem_addR, List.mem_cons]
      constructor
      · rintro (h | h | h)
        · exact .inl (.inr h)
        · exact .inl (.inl h)
        · exact .inr h
      · rintro ((h | h) | h)
        · exact .inr (.inl h)
        · exact .inl h
        · exact .inr (.inr h)
    · have := len_addR r L
      rw [List.foldl_cons, List.length_cons]
      omega
theorem asc_setR (l : List Rc) : Asc (setR l) := (setR_all l [] List.Pairwise.nil).1
theorem mem_setR {l : List Rc} {x : Rc} : x ∈ setR l ↔ x ∈ l := by
  unfold setR
  rw [(setR_all l [] List.Pairwise.nil).2.1]
  simp
theorem len_setR (l : List Rc) : (setR l).length ≤ l.length := by
  have := (setR_all l [] List.Pairwise.nil).2.2
  simpa [setR] using this
theorem setR_take {l : List Rc} {k : Nat} (hk : k < l.length) {x : Rc} (hx : l[k]'hk = x) : setR (l.take (k + 1)) = addR x (setR (l.take k)) := by
  rw [List.take_succ_eq_append_getElem hk, hx, setR_snoc]

/-! ### The reference's book -/
structure RbAt (w : World) (B : Nat) (L : List Rc) : Prop where
  asc : Asc L
  v : ∀ r ∈ L, rcB r = true
  b : ∃ A c A2 c2, RBk w B L (L.map (cntB L)) A c A2 c2 ∧ L.length ≤ c
theorem RBk.lt {w : World} {B : Nat} {L : List Rc} {C : List Bool} {A A2 : Option Addr} {c c2 : Nat} (h : RBk w B L C A c A2 c2) : B < w.heap.size := lt_of_heap h.b
theorem RbAt.lt {w : World} {B : Nat} {L : List Rc} (h : RbAt w B L) : B < w.heap.size := by obtain ⟨A, c, A2, c2, h1, -⟩ := h.b; exact h1.lt
theorem RbAt.below {w w' : World} {B : Nat} {L : List Rc} (h : RbAt w B L) (hb : Below w.heap.size w w') : RbAt w' B L := by
  obtain ⟨A, c, A2, c2, h1, h2⟩ := h.b
  exact ⟨h.asc, h.v, A, c, A2, c2, h1.below hb, h2⟩
/-- A block that holds neither numbers nor truth values. -/
def NoNum (w : World) (k : Nat) : Prop := ∀ off v, w.cell? ⟨k, off, none⟩ = some v → (∀ q n, v ≠ .int q n) ∧ ∀ b, v ≠ .bool b
theorem NoNum.map {w : World} {k : Nat} (h : ∃ es c, w.heap[k]? = some (.map es c)) : NoNum w k := fun off v hv => by
  obtain ⟨es, c, hm⟩ := h
  simp [World.cell?, hm] at hv
theorem NoNum.slices {w : World} {k : Nat} {A A2 : Option Addr} {a c n2 c2 : Nat} {ty : TypeId} (h : w.heap[k]? = some (.cells #[.slice A a c, .slice A2 n2 c2] ty (0, 0))) : NoNum w k := fun off v hv => by
  rw [cell_of_row _ _ off _ _ _ h] at hv
  match off, hv with
  | 0, hv => simp at hv; subst hv; exact ⟨fun _ _ => by simp, fun _ => by simp⟩
  | 1, hv => simp at hv; subst hv; exact ⟨fun _ _ => by simp, fun _ => by simp⟩
  | off + 2, hv => simp at hv
theorem rd_noNum {w w' : World} {k : Nat} {A : Option Addr} {xs : List Value} (h : Rd w A xs) (hx : ∀ u ∈ xs, (∃ q n, u = .int q n) ∨ ∃ b, u = .bool b) (hk : NoNum w k) (hg : w.grownBy w' (some k)) : Rd w' A xs := fun hne => by
  obtain ⟨b, off, rfl, hlt, hc⟩ := h hne
  have hbk : b ≠ k := by
    rintro rfl
    cases xs with
    | nil => exact hne rfl
    | cons x xs =>
      have h0 := hc 0 x rfl
      obtain ⟨h1, h2⟩ := hk _ _ h0
      rcases hx x (by simp) with ⟨q, n, e⟩ | ⟨b', e⟩
      · exact h1 q n e
      · exact h2 b' e
  exact ⟨b, off, rfl, Nat.lt_of_lt_of_le hlt hg.size, fun j u hu => by
    rw [World.cell?_of_block (hg.block b hlt (fun e => hbk (Option.some.inj e)))]
    exact hc j u hu⟩
theorem recs_nums (L : List Rc) : ∀ u ∈ recs L, (∃ q n, u = .int q n) ∨ ∃ b, u = .bool b := by
  intro u hu
  obtain ⟨r, -, h⟩ := List.mem_flatMap.1 hu
  simp only [rcC, rcA, List.mem_cons, List.not_mem_nil, or_false] at h
  rcases h with rfl | rfl | rfl | rfl | rfl | rfl | rfl | rfl | rfl | rfl | rfl | rfl | rfl | rfl <;> exact .inl ⟨_, _, rfl⟩
theorem bools_nums (C : List Bool) : ∀ u ∈ boolsV C, (∃ q n, u = .int q n) ∨ ∃ b, u = .bool b := by
  intro u hu
  obtain ⟨b, -, rfl⟩ := List.mem_map.1 hu
  exact .inr ⟨b, rfl⟩
theorem RBk.noNum {w : World} {B : Nat} {L : List Rc} {C : List Bool} {A A2 : Option Addr} {c c2 : Nat} (h : RBk w B L C A c A2 c2) : NoNum w B := .slices h.b
theorem RbAt.noNum {w : World} {B : Nat} {L : List Rc} (h : RbAt w B L) : NoNum w B := by obtain ⟨A, c, A2, c2, h1, -⟩ := h.b; exact h1.noNum
theorem BkAt.noNum {w : World} {B m : Nat} {S : List Rc} (h : BkAt w B m S) : NoNum w m := .map (GMap.isMap h.m)
theorem RBk.grown {w w' : World} {B k : Nat} {L : List Rc} {C : List Bool} {A A2 : Option Addr} {c c2 : Nat} (h : RBk w B L C A c A2 c2) (hk : NoNum w k) (hg : w.grownBy w' (some k)) (hne : B ≠ k) : RBk w' B L C A c A2 c2 :=
  ⟨(hg.block B h.lt (fun e => hne (Option.some.inj e))).trans h.b, rd_noNum h.l (recs_nums L) hk hg, rd_noNum h.n (bools_nums C) hk hg⟩
theorem RbAt.grown {w w' : World} {B k : Nat} {L : List Rc} (h : RbAt w B L) (hk : NoNum w k) (hg : w.grownBy w' (some k)) (hne : B ≠ k) : RbAt w' B L := by
  obtain ⟨A, c, A2, c2, h1, h2⟩ := h.b
  exact ⟨h.asc, h.v, A, c, A2, c2, h1.grown hk hg hne, h2⟩
/-- Books of the two packages do not share blocks. -/
theorem bk_rb {w : World} {B m B2 : Nat} {S L : List Rc} (h : BkAt w B m S) (h2 : RbAt w B2 L) : B ≠ B2 ∧ m ≠ B2 := by
  obtain ⟨A, c, A2, c2, h1, -⟩ := h2.b
  constructor
  · rintro rfl
    have := h.b
    rw [h1.b] at this
    simp at this
  · rintro rfl
    obtain ⟨es, c, hm⟩ := GMap.isMap h.m
    rw [h1.b] at hm
    cases hm
theorem RB0.rb {w : World} {B : Nat} {L : List Rc} {C : List Bool} {A A2 : Option Addr} {c c2 : Nat} (h : RBk w B L C A c A2 c2) (hc : L.length ≤ c) : RB0 w B L A c A2 C.length c2 := ⟨h.b, h.l, hc⟩

def MadePost (w : World) (L : List Rc) (e : Ending) (w' : World) : Prop := ∃ B, e = .returned (.pointer (some ⟨B, 0, none⟩)) ∧ w.heap.size ≤ B ∧ RbAt w' B L ∧ Below w.heap.size w w'

set_option maxHeartbeats 4000000 in
set_option maxRecDepth 100000 in
theorem rmade_calls (l : List Rc) (A : Option Addr) (c : Nat) (w : World) (h : Rd w A (recs l)) (hv : ∀ r ∈ l, rcB r = true) (hL : l.length ≤ 1000000) :
    Calls Tryz.prog 54 #[.slice A l.length c] w fun e w' => MadePost w (setR l) e w' := by
  have HRD := hid h
  have HV := hid hv
  have HLL := hid hL
  clear h hv hL
  go_enter Tryz.func54, Tryz.ntmps54
  go_upto_region 3 with (fail)
  change Code.wp _ _ _ _ (w.alloc (.cells #[.slice none 0 0, .slice none 0 0] 36))
  have hb0 := below_alloc w (.cells #[.slice none 0 0, .slice none 0 0] 36)
  have hn0 := heap_alloc_new w (.cells #[.slice none 0 0, .slice none 0 0] 36)
  have HK0 := hid (⟨hn0, Rd.nil _ _, Nat.le_refl _⟩ : RB0 (w.alloc (.cells #[.slice none 0 0, .slice none 0 0] 36)) w.heap.size [] none 0 none 0 0)
  have HB0 := hid hb0
  have HRD := hid ((unhid HRD).below hb0)
  obtain ⟨B, hB⟩ : ∃ B, B = w.heap.size := ⟨_, rfl⟩
  rw [← hB] at HK0 ⊢
  have HBE := hid hB
  clear hb0 hn0 hB
  generalize w.alloc (.cells #[.slice none 0 0, .slice none 0 0] 36) = W at *
  go_loopw [4] (fun iv wr => ∃ (k : Nat) (A1 : Option Addr) (c1 : Nat), k ≤ l.length ∧ iv = .int .i64 k ∧ RB0 wr B (setR (l.take k)) A1 c1 none 0 0 ∧ Rd wr A (recs l) ∧ Below w.heap.size w wr) (fun iv _ => l.length - (intOf iv).toNat)
  case atStart => exact ⟨0, none, 0, Nat.zero_le _, rfl, unhid HK0, unhid HRD, unhid HB0⟩
  case round =>
    clear HK0 HRD HB0
    obtain ⟨k, A1, c1, hk, rfl, hk0, hrd, hb⟩ := hrel
    have HK := hid hk0
    have HRD := hid hrd
    have HB := hid hb
    clear hk0 hrd hb
    by_cases hlt : k < l.length
    · have hki : (k : Int) < (l.length : Int) := by omega
      obtain ⟨b, off, hAe, hbl, hc⟩ := (unhid HRD) (recs_ne hlt)
      subst hAe
      obtain ⟨x, hx⟩ : ∃ x, l[k]'hlt = x := ⟨_, rfl⟩
      have HX := hid hx
      obtain ⟨a0, a1, a2, a3, a4, a5, a6, a7, a8', a9, a10, a11, a12, a13⟩ := rec_at14 hc hlt hx
      clear hc hx
      go_wp2_with fail
      refine (insert_calls x wr (unhid HK) (asc_setR _) (by have := len_setR (l.take k); have := unhid HLL; rw [List.length_take] at *; omega)).mono ?_
      rintro e w2 ⟨rfl, hg, A3, c3, hk3⟩
      clear a0 a1 a2 a3 a4 a5 a6 a7 a8' a9 a10 a11 a12 a13 hbl
      have HRD := hid (rd_noNum (unhid HRD) (recs_nums l) (.slices (unhid HK).b) hg)
      have HB := hid ((unhid HB).grown hg (unhid HB).size (fun j e => by cases e; exact Nat.le_of_eq (unhid HBE).symm))
      rw [← setR_take hlt (unhid HX)] at hk3
      have HK := hid hk3
      have HW1 := hid (show wrap64 ((k : Int) + 1) = ((k + 1 : Nat) : Int) from by have h1 := unhid HLL; unfold wrap64; omega)
      clear hg hk3
      go_wp2_with fail
      go_roundw
      case rel => exact ⟨k + 1, A3, c3, by omega, by rw [unhid HW1], unhid HK, unhid HRD, unhid HB⟩
      case measure => rw [unhid HW1]; simp [intOf]; omega
    · obtain rfl : k = l.length := by omega
      have hk1 := unhid HK
      rw [List.take_length] at hk1
      have HK := hid hk1
      have HVS := hid (show ∀ r ∈ setR l, rcB r = true from fun r hr => unhid HV r (mem_setR.1 hr))
      clear hk1
      go_wp2_with fail
      refine (settle_calls wr (unhid HK) (asc_setR l) (unhid HVS) (by have := len_setR l; have := unhid HLL; omega)).mono ?_
      rintro e w2 ⟨rfl, hg, A3, c3, hk3⟩
      have HP := hid (show MadePost w (setR l) (.returned (.pointer (some ⟨B, 0, none⟩))) w2 from ⟨B, rfl, Nat.le_of_eq (unhid HBE).symm, ⟨asc_setR l, unhid HVS, _, _, _, _, hk3, (unhid HK).c⟩, (unhid HB).grown hg (unhid HB).size (fun j e => by cases e; exact Nat.le_of_eq (unhid HBE).symm)⟩)
      clear hg hk3
      go_wp2_with fail
      go_ret
      exact unhid HP

/-- What Add of the reference leaves. -/
def raddL (L : List Rc) (r : Rc) : List Rc := if rcB r = true then addR r L else L
def RAddPost (w : World) (B : Nat) (L : List Rc) (r : Rc) (e : Ending) (w' : World) : Prop := e = .returned (.int .i64 (addE L r)) ∧ RbAt w' B (raddL L r) ∧ w.grownBy w' (some B)

set_option maxHeartbeats 4000000 in
set_option maxRecDepth 100000 in
theorem radd_calls (r : Rc) {B : Nat} {L : List Rc} (w : World) (h : RbAt w B L) (hL : L.length < 1000000) :
    Calls Tryz.prog 55 #[.pointer (some ⟨B, 0, none⟩), rcV r] w fun e w' => RAddPost w B L r e w' := by
  have hb0 := below_alloc w (.cells (rcA r) 82)
  have HR := hid (RcAt.new w r)
  have HB := hid hb0
  have HK := hid (h.below hb0)
  have HLL := hid hL
  clear h hL hb0
  show Calls Tryz.prog 55 #[.pointer (some ⟨B, 0, none⟩), .agg #[.int .i64 r.tab, .int .i64 r.num, .int .i64 r.hour, .int .i64 r.sign, .int .i64 r.fld, .int .i64 r.val, .int .i64 r.s0, .int .i64 r.s1, .int .i64 r.s2, .int .i64 r.s3, .int .i64 r.s4, .int .i64 r.s5, .int .i64 r.s6, .int .i64 r.s7]] w _
  go_enter Tryz.func55, Tryz.ntmps55
  go_upto_region 1 with (fail)
  change Code.wp _ _ _ _ (w.alloc (.cells (rcA r) 82))
  generalize w.alloc (.cells (rcA r) 82) = W at *
  obtain ⟨X, hX⟩ : ∃ X, X = w.heap.size := ⟨_, rfl⟩
  rw [← hX] at HR ⊢
  have HXE := hid hX
  clear hX
  obtain ⟨c0, c1, c2, c3, c4, c5⟩ := (unhid HR).cells
  obtain ⟨e0, e1, e2, e3, e4, e5, e6, e7⟩ := (unhid HR).seen8
  go_wp2_with fail
  refine (rvalid_calls r W).mono ?_
  rintro e w2 ⟨rfl, hb2⟩
  have HR := hid ((unhid HR).below hb2 (unhid HR).lt)
  have HK := hid ((unhid HK).below hb2)
  have HB := hid ((unhid HB).trans (hb2.mono (unhid HB).size))
  clear hb2 c0 c1 c2 c3 c4 c5 e0 e1 e2 e3 e4 e5 e6 e7
  cases hv : rcB r with
  | false =>
    have HP := hid (show RAddPost w B L r (.returned (.int .i64 90)) w2 from ⟨by simp [addE, hv], by unfold raddL; rw [if_neg (by simp [hv])]; exact unhid HK, grown_of_below (unhid HB) _⟩)
    go_wp2_with fail
    go_ret
    exact unhid HP
  | true =>
    have HV := hid hv
    clear hv
    obtain ⟨c0, c1, c2, c3, c4, c5⟩ := (unhid HR).cells
    obtain ⟨e0, e1, e2, e3, e4, e5, e6, e7⟩ := (unhid HR).seen8
    obtain ⟨A, c, A2, cc2, hk, hc⟩ := (unhid HK).b
    have HK1 := hid hk
    have HCC := hid hc
    clear hk hc
    go_wp2_with fail
    refine (insert_calls r w2 (RB0.rb (unhid HK1) (unhid HCC)) (unhid HK).asc (by have := unhid HLL; omega)).mono ?_
    rintro e w3 ⟨rfl, hg, A3, cc3, hk3⟩
    clear c0 c1 c2 c3 c4 c5 e0 e1 e2 e3 e4 e5 e6 e7
    have HG := hid (grown_then (unhid HB) hg)
    by_cases hm : r ∈ L
    · have HM := hid hm
      rw [decide_eq_true hm]
      have hrd := rd_noNum (unhid HK1).n (bools_nums _) (.slices (unhid HK1).b) hg
      have e1 : addR r L = L := by unfold addR; rw [if_pos hm]
      rw [e1] at hk3
      have HP := hid (show RAddPost w B L r (.returned (.int .i64 22)) w3 from ⟨by simp [addE, unhid HV, hm], by
        unfold raddL
        rw [if_pos (unhid HV), e1]
        exact ⟨(unhid HK).asc, (unhid HK).v, _, _, _, _, ⟨hk3.b, hk3.l, hrd⟩, hk3.c⟩, unhid HG⟩)
      clear hg hk3 hm hrd e1
      go_wp2_with fail
      go_ret
      exact unhid HP
    · have HM := hid hm
      rw [decide_eq_false hm]
      have HK3 := hid hk3
      have HVL := hid (valid_addR (unhid HV) (unhid HK).v)
      clear hg hk3 hm
      go_wp2_with fail
      refine (settle_calls w3 (unhid HK3) (asc_addR (unhid HK).asc) (unhid HVL) (by have := len_addR r L; have := unhid HLL; omega)).mono ?_
      rintro e w4 ⟨rfl, hg, A4, cc4, hk4⟩
      have HP := hid (show RAddPost w B L r (.returned (.int .i64 0)) w4 from ⟨by simp [addE, unhid HV, unhid HM], by
        unfold raddL
        rw [if_pos (unhid HV)]
        exact ⟨asc_addR (unhid HK).asc, unhid HVL, _, _, _, _, hk4, (unhid HK3).c⟩, (unhid HG).andThen hg (fun j hj => .inr hj)⟩)
      clear hg hk4
      go_wp2_with fail
      go_ret
      exact unhid HP

end Go.Proofs.YtegghimjmbgghaaGreat
