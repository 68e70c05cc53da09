/-
  Signs of the program.
-/
import Derived.Test.YtegghimjmbgghaaGreatBkDp
set_option linter.unusedSimpArgs false
set_option linter.unusedVariables false
namespace Go.Proofs.YtegghimjmbgghaaGreat
open Go.RowKit Go.Shelf

/-- The signs of the records that count. -/
noncomputable def signsP (L : List Rc) : List Int := setI ((cntL L).map Rc.sign)
def SgPost (w : World) (L : List Rc) (e : Ending) (w' : World) : Prop := ∃ v, e = .returned v ∧ (signsP L).length ≤ L.length ∧ w'.ownsRow w.heap.size 3 1 v (signsP L).length (ints (signsP L)) ∧ Below w.heap.size w w'
theorem signsP_len (L : List Rc) : (signsP L).length ≤ L.length := by
  unfold signsP
  refine Nat.le_trans (setI_len _) ?_
  rw [List.length_map]
  exact List.length_filter_le _ _
/-- Along the map of cases. -/
structure SgI (w2 : World) (mm N : Nat) (E todo : List ((Int × Int) × Value)) (v : Value) (zs : List Int) (w : World) : Prop where
  rng : GRng caseK w mm N E todo
  own : w.ownsRow (N + 1) 3 1 v zs.length (ints zs)
  mem : ∀ z, z ∈ zs ↔ ∃ f, (z, f) ∈ keysE E ∧ (z, f) ∉ keysE todo
  len : zs.length + todo.length = E.length
  b : Below N w2 w
  e : N = w2.heap.size
  lo : mm < N ∧ N < w.heap.size
section
variable {w2 w w' : World} {mm N : Nat} {E todo : List ((Int × Int) × Value)} {v v' : Value} {zs : List Int}
theorem SgI.next {x : Int × Int} {xv : Value} (h : SgI w2 mm N E todo v zs w) (hx : (x, xv) ∈ todo) (hr : GRng caseK w' mm N E (delE todo x)) (hg : w.grownBy w' (some N)) :
    w'.ownsRow (N + 1) 3 1 v zs.length (ints zs) ∧ Below N w2 w' ∧ zs.length + (delE todo x).length + 1 = E.length := by
  refine ⟨h.own.kept hg ?_, h.b.grown hg (by have := h.lo; omega) (fun j e => by cases e; exact Nat.le_refl _), ?_⟩
  · cases hv : v.ownBlock with
    | none => exact .inl rfl
    | some g => exact .inr (fun e => by have := own_block_lt h.own hv; have := Option.some.inj e; omega)
  · have h1 := len_del h.rng.left.1 x
    rw [if_pos (mem_keysE.2 ⟨xv, hx⟩)] at h1
    have := h.len
    omega
/-- The same, without what is known of the signs. -/
structure SgJ (w2 : World) (mm N : Nat) (E todo : List ((Int × Int) × Value)) (v : Value) (zs : List Int) (w : World) : Prop where
  rng : GRng caseK w mm N E todo
  own : w.ownsRow (N + 1) 3 1 v zs.length (ints zs)
  b : Below N w2 w
  e : N = w2.heap.size
  lo : mm < N ∧ N < w.heap.size
theorem SgJ.below (h : SgJ w2 mm N E todo v zs w) (hb : Below w.heap.size w w') : SgJ w2 mm N E todo v zs w' ∧ w'.rangeLeft mm N = w.rangeLeft mm N :=
  ⟨⟨h.rng.below hb h.rng.map.lt h.rng.lt, own_below h.own hb, h.b.trans (hb.mono (by have := h.lo; omega)), h.e, h.lo.1, Nat.lt_of_lt_of_le h.lo.2 hb.size⟩, GRng.left_kept (hb.block mm h.rng.map.lt) (hb.block N h.rng.lt)⟩
theorem SgJ.push {x : Int} {tmp : Obj} (h : SgJ w2 mm N E todo v zs w) (hown : w'.ownsRow (N + 1) 3 1 v' (zs.length + 1) (ints zs ++ [.int .i64 x])) (hg : (w.alloc tmp).grownBy w' v.ownBlock) : SgJ w2 mm N E todo v' (zs ++ [x]) w' ∧ w'.rangeLeft mm N = w.rangeLeft mm N := by
  have hne : ∀ k, k ≤ N → some k ≠ v.ownBlock := fun k hk e => by have := own_block_lt h.own e.symm; omega
  have hb := below_alloc w tmp
  have hlo := h.lo
  have e1 : ∀ k, k ≤ N → w'.heap[k]? = w.heap[k]? := fun k hk => (hg.block k (Nat.lt_of_lt_of_le (by omega) hb.size) (hne k hk)).trans (hb.block k (by omega))
  refine ⟨⟨h.rng.block (e1 mm (by omega)) (e1 N (Nat.le_refl _)), by rw [List.length_append, ints_append]; exact hown, (h.b.alloc (by omega) tmp).grown hg (by simp; omega) (fun j hj => by have := own_block_lt h.own hj; omega), h.e, hlo.1, Nat.lt_of_lt_of_le hlo.2 (Nat.le_trans hb.size hg.size)⟩, GRng.left_kept (e1 mm (by omega)) (e1 N (Nat.le_refl _))⟩
theorem SgJ.i (h : SgJ w2 mm N E todo v zs w) (mem : ∀ z, z ∈ zs ↔ ∃ f, (z, f) ∈ keysE E ∧ (z, f) ∉ keysE todo) (len : zs.length + todo.length = E.length) : SgI w2 mm N E todo v zs w := ⟨h.rng, h.own, mem, len, h.b, h.e, h.lo⟩
theorem mem_sg {x1 x2 : Int} {xv : Value} (h : ∀ z, z ∈ zs ↔ ∃ f, (z, f) ∈ keysE E ∧ (z, f) ∉ keysE todo) (hx : ((x1, x2), xv) ∈ todo) (hE : ((x1, x2), xv) ∈ E) :
    ∀ z, z ∈ zs ++ [x1] ↔ ∃ f, (z, f) ∈ keysE E ∧ (z, f) ∉ keysE (delE todo (x1, x2)) := by
  have hxk : (x1, x2) ∈ keysE todo := mem_keysE.2 ⟨xv, hx⟩
  have hxE : (x1, x2) ∈ keysE E := mem_keysE.2 ⟨xv, hE⟩
  intro z
  rw [List.mem_append, List.mem_singleton, h z]
  constructor
  · rintro (⟨f, h1, h2⟩ | rfl)
    · exact ⟨f, h1, fun h3 => h2 (by rw [mem_keysE_del] at h3; exact h3.1)⟩
    · exact ⟨x2, hxE, fun h3 => by rw [mem_keysE_del] at h3; exact h3.2 rfl⟩
  · rintro ⟨f, h1, h2⟩
    by_cases e : (z, f) = (x1, x2)
    · right
      exact congrArg Prod.fst e
    · left
      exact ⟨f, h1, fun h3 => h2 (by rw [mem_keysE_del]; exact ⟨h3, e⟩)⟩
end

set_option maxHeartbeats 8000000 in
set_option maxRecDepth 100000 in
theorem signs_calls {B m : Nat} {S L : List Rc} (w : World) (h : BkAt w B m S) (hS : S.length ≤ 100000) (hA : Asc L) (hm : ∀ r, r ∈ S ↔ r ∈ L) :
    Calls Tryz.prog 19 #[.pointer (some ⟨B, 0, none⟩)] w fun e w' => SgPost w L e w' := by
  obtain ⟨i0, hi, hz0, hz1, hz2⟩ := info_parts info_int
  have HC := hid (cases_calls w h (by omega))
  have HSL := hid hS
  have HA := hid hA
  have HM := hid hm
  clear h hS hA hm
  go_enter Tryz.func19, Tryz.ntmps19
  go_wp2_with fail
  refine (unhid HC).mono ?_
  rintro e w2 ⟨mm, E, L2, rfl, hE1, hE2, hp, hA2, hmm, hb2⟩
  obtain rfl : L2 = L := asc_eq hA2 (unhid HA) (fun r => by rw [hp.mem_iff, unhid HM r])
  have HE1 := hid hE1
  have HE2 := hid hE2
  have HB2 := hid hb2
  have HLN := hid (show E.length ≤ L2.length ∧ L2.length ≤ 100000 from ⟨Nat.le_trans hE2.len (List.length_filter_le _ _), by rw [hp.length_eq]; exact unhid HSL⟩)
  clear hE1 hE2 hp hA2 hmm hb2 HC
  go_wp2_with (first | (at_range; refine wpList_grange rfl _ 117 rfl 22 Tryz.underlying117 rfl (unhid HE1) ?_; intro w0 hr0 hg0 hs0) | go_in)
  go_frame
  obtain ⟨N, hN⟩ : ∃ N, N = w2.heap.size := ⟨_, rfl⟩
  rw [← hN] at hr0 ⊢
  have HI0 := hid (⟨hr0, World.ownsRow_nil _ _ _ _, fun z => ⟨fun h => by simp at h, fun ⟨f, h1, h2⟩ => absurd h1 h2⟩, by simp, (below_of_grown hg0).mono (Nat.le_of_eq hN), hN, by have := (unhid HE1).lt; omega, by omega⟩ : SgI w2 mm N E E (.slice none 0 0) [] w0)
  clear hr0 hg0 hs0 hN
  go_loopw [3] (fun ov wr => ∃ (todo : List ((Int × Int) × Value)) (zs : List Int), SgI w2 mm N E todo ov zs wr) (fun _ wr => wr.rangeLeft mm N)
  case atStart => exact ⟨_, _, unhid HI0⟩
  case round =>
    clear HI0
    obtain ⟨todo, zs, hi1⟩ := hrel
    have HI := hid hi1
    clear hi1
    go_wp2_with (first | (at_next; refine wpList_gnext rfl _ rfl rfl (unhid HI).rng ?_ ?_) | go_in)
    · intro hnil
      subst hnil
      have HDL := hid (show zs.length ≤ 1000000 from by have := (unhid HI).len; have := unhid HLN; simp at *; omega)
      have HVP := hid (show setI zs = signsP L2 from by
        unfold signsP
        refine ascI_eq (setI_asc _) (setI_asc _) (fun z => ?_)
        rw [mem_setI, mem_setI, (unhid HI).mem z, List.mem_map]
        constructor
        · rintro ⟨f, h1, -⟩
          obtain ⟨v, hv⟩ := mem_keysE.1 h1
          obtain ⟨r, hr, e1, e2⟩ := (unhid HE2).is _ hv
          exact ⟨r, hr, e1⟩
        · rintro ⟨r, hr, rfl⟩
          exact ⟨r.fld, (unhid HE2).all r hr, by simp [keysE]⟩)
      have hown := (unhid HI).own
      have HB := hid (unhid HI).b
      have HNN := hid (unhid HI).e
      have HNL := hid (unhid HI).lo
      have HS := hid (sortInts_calls zs _ (N + 1) wr hown (unhid HDL))
      have HO := hid (fun j hj => (own_block_lt hown (g := j) hj).1)
      clear hown HI
      go_wp2_with fail
      refine (unhid HS).mono ?_
      rintro e w5 ⟨rfl, hown, hg⟩
      have HB := hid ((unhid HB).grown hg (by have := unhid HNL; omega) (fun j hj => by have := unhid HO j hj; omega))
      have HSZ := hid hg.size
      have hln : zs.length = (zs.mergeSort fun x y => decide (x ≤ y)).length := (List.length_mergeSort _).symm
      rw [hln] at hown
      have HC := hid (compactInts_calls (zs.mergeSort fun x y => decide (x ≤ y)) _ (N + 1) w5 hown (by rw [← hln]; exact unhid HDL))
      rw [compact_set, unhid HVP] at HC
      clear hown hg hln HS
      go_wp2_with fail
      refine (unhid HC).mono ?_
      rintro e w6 ⟨u, rfl, hown, hg⟩
      have HB := hid ((unhid HB).grown hg (by have := unhid HNL; have := unhid HSZ; omega) (fun j hj => by have := unhid HO j hj; omega))
      have HP := hid (show SgPost w L2 (.returned u) w6 from ⟨u, rfl, signsP_len _, own_base hown (by have h1 := (unhid HB2).size; have h2 := unhid HNN; omega), (unhid HB2).trans ((unhid HB).mono (by have h1 := (unhid HB2).size; have h2 := unhid HNN; omega))⟩)
      clear hg hown
      go_wp2_with fail
      go_ret
      exact unhid HP
    · intro x1 x2 xv w1 hx hrg1 hlt1 hg1 hs1 hen
      change (Instr.entry (.pointer (some ⟨N, 0, none⟩))).run Tryz.prog w1 = .ok (.tuple #[.agg #[.int .i64 x1, .int .i64 x2], xv]) w1 at hen
      have hxE := (unhid HI).rng.left.2 _ hx
      have hnx := (unhid HI).next hx hrg1 hg1
      have HMD := hid (mem_sg (unhid HI).mem hx hxE)
      have HJ := hid (⟨hrg1, hnx.1, hnx.2.1, (unhid HI).e, (unhid HI).lo.1, by have := (unhid HI).lo; omega⟩ : SgJ w2 mm N E (delE todo (x1, x2)) u3 zs w1)
      have HLT := hid hlt1
      have HLEN := hid hnx.2.2
      clear hx hrg1 hlt1 hg1 hs1 hxE hnx HI
      go_upto_region 5 with (fail)
      change Code.wp _ _ _ _ (w1.alloc (.cells #[.int .i64 x1, .int .i64 x2] 116))
      have hb1 := below_alloc w1 (.cells #[.int .i64 x1, .int .i64 x2] 116)
      have hn1 := heap_alloc_new w1 (.cells #[.int .i64 x1, .int .i64 x2] 116)
      have hj := (unhid HJ).below hb1
      have HLT := hid (show (w1.alloc (.cells #[.int .i64 x1, .int .i64 x2] 116)).rangeLeft mm N < wr.rangeLeft mm N from by rw [hj.2]; exact unhid HLT)
      have HJ := hid hj.1
      obtain ⟨X, hX⟩ : ∃ X, X = w1.heap.size := ⟨_, rfl⟩
      rw [← hX] at hn1 ⊢
      have HX := hid hn1
      clear hb1 hn1 hj hX hen
      generalize w1.alloc (.cells #[.int .i64 x1, .int .i64 x2] 116) = W1 at *
      have a0 := cell_of_row W1 X 0 _ _ _ (unhid HX)
      simp only [List.getElem?_toArray, List.getElem?_cons_zero] at a0
      have hy := (unhid HJ).own
      have hlc : zs.length ≤ 100000 := by have := unhid HLEN; have := unhid HLN; omega
      have hsz : N + 1 ≤ W1.heap.size := (unhid HJ).lo.2
      go_wp2_with (at_builtin; refine wpList_append_own _ rfl _ _ 43 rfl (N + 1) 3 i0 (.int .i64 0) 1 8 Tryz.underlying43 hi hz0 hz1 hz2 rfl (by decide) _ _ _ rfl (hy.alloc _) ⟨W1.heap.size, 0, none⟩ 1 1 [.int .i64 x1] rfl rfl (int_news W1 x1) (by simp [Value.oneCell']) (by unfold maxLen; omega) (by omega) (by simp; omega) ?_; intro v' w6 hown' hgrow hnil)
      have hj := (unhid HJ).push hown' hgrow
      have HLT := hid (show w6.rangeLeft mm N < wr.rangeLeft mm N from by rw [hj.2]; exact unhid HLT)
      have HI := hid (hj.1.i (unhid HMD) (by have := unhid HLEN; rw [List.length_append, List.length_singleton]; omega))
      clear hy hlc hsz hown' hgrow hnil hj a0
      go_wp2_with fail
      go_roundw
      case rel => exact ⟨_, _, unhid HI⟩
      case measure => exact unhid HLT

end Go.Proofs.YtegghimjmbgghaaGreat
