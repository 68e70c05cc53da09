/-
  Copy of the program; Join of the reference.
-/
import Derived.Test.YtegghimjmbgghaaBkRg
import Derived.Test.YtegghimjmbgghaaBkCl
import Derived.Shelf.SlMaps.Clone
import Derived.ArgAppend
set_option linter.unusedSimpArgs false
set_option linter.unusedVariables false
namespace Go.Proofs.Ytegghimjmbgghaa
open Go.RowKit Go.Shelf

/-! ### Copy -/
theorem GMap.moved {P : Program} {k : TypeId} {α : Type} [DecidableEq α] {K : KeyEnc P k α} {w w' : World} {m m' : Nat} {E : List (α × Value)} (h : GMap K w m E) (hb : w'.heap[m']? = w.heap[m]?) : GMap K w' m' E := by
  obtain ⟨D, ⟨es, c, h1, h2⟩, h3⟩ := h
  exact ⟨D, ⟨es, c, hb.trans h1, h2⟩, h3⟩
def CopyAt (w : World) (S : List Rc) (e : Ending) (w' : World) : Prop :=
  e = .returned (.pointer (some ⟨w.heap.size + 1, 0, none⟩)) ∧ BkAt w' (w.heap.size + 1) w.heap.size S ∧ Below w.heap.size w w'
set_option maxHeartbeats 4000000 in
set_option maxRecDepth 100000 in
theorem pcopy_calls {B m : Nat} {S : List Rc} (w : World) (h : BkAt w B m S) :
    Calls Try.prog 30 #[.pointer (some ⟨B, 0, none⟩)] w fun e w' => CopyAt w S e w' := by
  obtain ⟨es, c, hm⟩ := GMap.isMap h.m
  have hcall := AnyW.maps_Clone Try.cloneSet m es c w hm
  change Calls Try.prog 68 _ _ _ at hcall
  have HC := hid hcall
  have cb := h.cell
  have HK := hid h
  have hb1 := below_alloc w (.map es c)
  have hn1 := heap_alloc_new w (.map es c)
  have hs : (w.alloc (.map es c)).heap.size = w.heap.size + 1 := by simp
  have hb2 := below_alloc (w.alloc (.map es c)) (.cells #[.map (some w.heap.size)] 104)
  have hn2 := heap_alloc_new (w.alloc (.map es c)) (.cells #[.map (some w.heap.size)] 104)
  rw [hs] at hn2
  have HP := hid (show CopyAt w S (.returned (.pointer (some ⟨w.heap.size + 1, 0, none⟩))) ((w.alloc (.map es c)).alloc (.cells #[.map (some w.heap.size)] 104)) from
    ⟨rfl, ⟨hn2, GMap.moved h.m (((hb2.block _ (by omega)).trans hn1).trans hm.symm), h.v⟩, hb1.trans (hb2.mono hb1.size)⟩)
  clear h hcall hb1 hn1 hs hb2 hn2 hm
  go_enter Try.func30, Try.ntmps30
  go_wp2_with (go_at_call 55; refine (none_calls _ (unhid HK)).mono ?_; rintro e w' ⟨rfl, rfl⟩)
  refine (unhid HC).mono ?_
  rintro e w2 ⟨rfl, rfl⟩
  go_wp2_with fail
  go_ret
  exact unhid HP

/-! ### append -/
theorem wpList_app {P : Program} {ops : Array Oper} {rest : List Oper} {o : Oper} {a : Act} {w : World} {Q : Exit → Act → World → Prop}
    (hg : o.guard = none) (s x : Operand) (t : TypeId) (hop : o.op = Op.call { callee := Callee.builtin Builtin.append, args := #[s, x], argTypes := #[t, t] })
    (e : TypeId) (i : TypeInfo) (z : Value) (size bytes : Nat) (h1 : P.underlying t = some (.slice e)) (h2 : P.info? e = some i) (h3 : i.zero = some z) (h4 : i.size = size) (h5 : i.bytes = bytes) (h6 : z.cells.size = size) (h7 : 0 < size)
    (A : Option Addr) (n c : Nat) (xs : List Value) (hs : a.eval s = .slice A n c) (hA : Rd w A xs) (hxl : xs.length = n * size) (hnone : A = none → c = 0) (hnc : n ≤ c) (hcm : c ≤ maxLen)
    (A2 : Option Addr) (m c2 : Nat) (ys : List Value) (hx : a.eval x = .slice A2 m c2) (hA2 : Rd w A2 ys) (hyl : ys.length = m * size) (h1c : ∀ u ∈ ys, u.oneCell' = true)
    (hfull : m = 0 ∨ c < n + m) (b1 : n + m ≤ maxLen) (b2 : (n + m) * bytes ≤ 140737488355328)
    (hK : ∀ A' c' w', Rd w' A' (xs ++ ys) → n + m ≤ c' → w.grownBy w' none → wpList P ops Q rest (a.put o.dst (.slice A' (n + m) c')) w') : wpList P ops Q (o :: rest) a w := by
  by_cases hm : m = 0
  · subst hm
    have hy : ys = [] := List.eq_nil_of_length_eq_zero (by simpa using hyl)
    subst hy
    refine wpList_plain hg fun K hK' => ?_
    have hrun := run_app_zero (P := P) w t o.type e i h1 h2 A n c hnc A2 c2
    unfold Oper.wp
    simp [execOp, hop, resolve, invoke, builtin, hs, hx, hrun, Result.andThen]
    exact hK' _ _ (hK A c w (by simpa using hA) (by simpa using hnc) (World.grownBy.refl w none))
  · have hyne : ys ≠ [] := by
      intro e
      have hp := Nat.mul_pos (Nat.pos_of_ne_zero hm) h7
      rw [← hyl, e] at hp
      simp at hp
    obtain ⟨b2', off2, rfl, hb2, hc2⟩ := hA2 hyne
    refine wpList_append_grows w hg s x t hop e i z size bytes h1 h2 h3 h4 h5 h6 h7 A n c xs hs (fun h => ⟨by have := hnone h; omega, hnone h⟩) hxl (fun ad had j u hu => ?_)
      ⟨b2', off2, none⟩ m c2 ys hx hyl (fun j u hu => by rw [add_at]; exact hc2 j u hu) h1c (by omega) b1 b2 (fun v' w' hown hgr => ?_)
    · have hxne : xs ≠ [] := by rintro rfl; simp at hu
      obtain ⟨b, off, hA', hb, hc⟩ := hA hxne
      rw [had] at hA'
      injection hA' with hA'
      subst hA'
      rw [add_at]; exact hc j u hu
    · obtain ⟨A', c', rfl, hr, h8, h9, h10⟩ := own_slice2 hown
      exact hK A' c' w' hr h8 hgr

/-! ### Join of the reference -/
def joinR (L l : List Rc) : List Rc := l.foldl (fun L r => addR r L) L
theorem joinR_take {L l : List Rc} {k : Nat} (hk : k < l.length) {x : Rc} (hx : l[k]'hk = x) : joinR L (l.take (k + 1)) = addR x (joinR L (l.take k)) := by
  rw [List.take_succ_eq_append_getElem hk, hx]
  simp [joinR, List.foldl_append]
theorem mem_joinR {L l : List Rc} (hA : Asc L) {x : Rc} : x ∈ joinR L l ↔ x ∈ l ∨ x ∈ L := (setR_all l L hA).2.1 x
theorem asc_joinR {L l : List Rc} (hA : Asc L) : Asc (joinR L l) := (setR_all l L hA).1
theorem len_joinR {L l : List Rc} (hA : Asc L) : (joinR L l).length ≤ L.length + l.length := (setR_all l L hA).2.2
theorem len_addR' (r : Rc) (L : List Rc) : ((addR r L).length : Int) = L.length + (if r ∈ L then 0 else 1) := by
  unfold addR
  by_cases h : r ∈ L
  · rw [if_pos h, if_pos h]; omega
  · rw [if_neg h, if_neg h, len_ins]; omega
def RJoinPost (w : World) (B : Nat) (L L2 : List Rc) (e : Ending) (w' : World) : Prop :=
  e = .returned (.int .i64 (((joinR L L2).length : Int) - L.length)) ∧ RbAt w' B (joinR L L2) ∧ w.grownBy w' (some B)

set_option maxHeartbeats 8000000 in
set_option maxRecDepth 100000 in
theorem rjoin_calls {B B2 : Nat} {L L2 : List Rc} (w : World) (h : RbAt w B L) (h2 : RbAt w B2 L2) (hL : L.length + L2.length ≤ 100000) :
    Calls Try.prog 32 #[.pointer (some ⟨B, 0, none⟩), .pointer (some ⟨B2, 0, none⟩)] w fun e w' => RJoinPost w B L L2 e w' := by
  obtain ⟨i0, hi, hz0, hz1, hz2⟩ := info_parts info_rec
  obtain ⟨A, c, A2, c2, hrk, hcap⟩ := h.b
  obtain ⟨A3, c3, A4, c4, hrk2, -⟩ := h2.b
  have HK := hid (RB0.rb hrk hcap)
  have HA := hid h.asc
  have HV := hid (show ∀ x ∈ joinR L L2, rcB x = true from fun x hx => ((mem_joinR h.asc).1 hx).elim (h2.v x) (h.v x))
  have HV2 := hid h2.v
  have HLL := hid hL
  have k2 := hrk2.cell0
  have hB2 := hrk2.lt
  have HRD := hid hrk2.l
  have hb0 := below_alloc w (.cells #[] 33)
  have HRD0 := hid (hrk2.l.below hb0)
  have HB0 := hid hb0
  clear h h2 hL hrk hcap hrk2 hb0
  go_enter Try.func32, Try.ntmps32
  go_upto_region 4 with (at_builtin; refine wpList_app rfl _ _ 22 rfl 33 i0 (.agg (rcA rc0)) 14 112 Try.underlying22 hi hz0 hz1 hz2 rfl (by decide) (some ⟨w.heap.size, 0, none⟩) 0 0 [] rfl (Rd.nil _ _) rfl (fun _ => rfl) (Nat.le_refl _) (by unfold maxLen; omega) A3 L2.length c3 (recs L2) rfl (unhid HRD0) (recs_len L2) (recs_cell1 L2) (by omega) (by have := unhid HLL; unfold maxLen; omega) (by have := unhid HLL; omega) ?_; intro A5 c5 w5 hr5 hc5 hg5)
  have HR5 := hid hr5
  have HB5 := hid ((unhid HB0).trans ((below_of_grown hg5).mono (unhid HB0).size))
  clear hr5 hc5 hg5 k2 hB2 HRD HRD0 HB0
  (try rw [show 0 + L2.length = L2.length from Nat.zero_add _])
  have HR5 := hid (show Rd w5 A5 (recs L2) from unhid HR5)
  have HK5 := hid ((unhid HK).below (unhid HB5))
  have HG5 := hid (grown_of_below (unhid HB5) (some B))
  clear HK HB5
  go_loopw [7, 5] (fun iv nv wr => ∃ (k : Nat) (A1 : Option Addr) (c1 : Nat), k ≤ L2.length ∧ iv = .int .i64 k ∧ nv = .int .i64 (((joinR L (L2.take k)).length : Int) - L.length) ∧ RB0 wr B (joinR L (L2.take k)) A1 c1 A2 (L.map (cntB L)).length c2 ∧ Rd wr A5 (recs L2) ∧ w.grownBy wr (some B)) (fun iv _ _ => L2.length - (intOf iv).toNat)
  case atStart => exact ⟨0, A, c, Nat.zero_le _, rfl, by simp [joinR], unhid HK5, unhid HR5, unhid HG5⟩
  case round =>
    clear HK5 HR5 HG5
    obtain ⟨k, A1, c1, hk, rfl, rfl, hk0, hrd, hg⟩ := hrel
    have HK := hid hk0
    have HRD := hid hrd
    have HG := hid hg
    have HJL := hid (len_joinR (l := L2.take k) (unhid HA))
    have HJA := hid (asc_joinR (l := L2.take k) (unhid HA))
    clear hk0 hrd hg
    by_cases hlt : k < L2.length
    · have hki : (k : Int) < (L2.length : Int) := by omega
      obtain ⟨b, off, hAe, hbl, hc⟩ := (unhid HRD) (recs_ne hlt)
      subst hAe
      obtain ⟨x, hx⟩ : ∃ x, L2[k]'hlt = x := ⟨_, rfl⟩
      have HX := hid hx
      obtain ⟨a0, a1, a2, a3, a4, a5, a6, a7, a8', a9, a10, a11, a12, a13⟩ := rec_at14 hc hlt hx
      have HTK := hid (show (joinR L (L2.take k)).length ≤ 100000 from by have := unhid HJL; have := unhid HLL; rw [List.length_take] at *; omega)
      clear hc hx
      go_wp2_with fail
      refine (insert_calls x wr (unhid HK) (unhid HJA) (by have := unhid HTK; omega)).mono ?_
      rintro e w2 ⟨rfl, hg2, A7, c7, hk3⟩
      clear a0 a1 a2 a3 a4 a5 a6 a7 a8' a9 a10 a11 a12 a13 hbl
      have HRD := hid (rd_noNum (unhid HRD) (recs_nums L2) (.slices (unhid HK).b) hg2)
      have HG := hid ((unhid HG).andThen hg2 (fun j hj => .inr hj))
      rw [← joinR_take hlt (unhid HX)] at hk3
      have HK := hid hk3
      have HW1 := hid (show wrap64 ((k : Int) + 1) = ((k + 1 : Nat) : Int) from by have h1 := unhid HLL; unfold wrap64; omega)
      have HLN := hid (show ((joinR L (L2.take (k + 1))).length : Int) = (joinR L (L2.take k)).length + (if x ∈ joinR L (L2.take k) then 0 else 1) from by rw [joinR_take hlt (unhid HX)]; exact len_addR' _ _)
      obtain ⟨T, hT⟩ : ∃ T : Nat, (joinR L (L2.take k)).length = T := ⟨_, rfl⟩
      rw [hT] at HLN HTK ⊢
      clear hg2 hk3 hT
      by_cases hm : x ∈ joinR L (L2.take k)
      · have HL2 := hid (show ((joinR L (L2.take (k + 1))).length : Int) = T from by have := unhid HLN; rw [if_pos hm] at this; omega)
        rw [decide_eq_true hm]
        clear hm
        go_wp2_with fail
        go_roundw
        case rel => exact ⟨k + 1, A7, c7, by omega, by rw [unhid HW1], by rw [unhid HL2], unhid HK, unhid HRD, unhid HG⟩
        case measure => rw [unhid HW1]; simp [intOf]; omega
      · have HL2 := hid (show ((joinR L (L2.take (k + 1))).length : Int) = T + 1 from by have := unhid HLN; rw [if_neg hm] at this; omega)
        have HW2 := hid (show wrap64 ((T : Int) - (L.length : Int) + 1) = (T : Int) + 1 - L.length from by have h1 := unhid HTK; have := unhid HLL; unfold wrap64; omega)
        rw [decide_eq_false hm]
        clear hm
        go_wp2_with fail
        go_roundw
        case rel => exact ⟨k + 1, A7, c7, by omega, by rw [unhid HW1], by rw [unhid HL2, unhid HW2], unhid HK, unhid HRD, unhid HG⟩
        case measure => rw [unhid HW1]; simp [intOf]; omega
    · obtain rfl : k = L2.length := by omega
      have hk1 := unhid HK
      rw [List.take_length] at hk1 ⊢
      have HK := hid hk1
      clear hk1 HJL HJA
      go_wp2_with fail
      refine (settle_calls wr (unhid HK) (asc_joinR (unhid HA)) (unhid HV) (by have := len_joinR (l := L2) (unhid HA); have := unhid HLL; omega)).mono ?_
      rintro e w2 ⟨rfl, hg2, A7, c7, hk3⟩
      have HP := hid (show RJoinPost w B L L2 (.returned (.int .i64 (((joinR L L2).length : Int) - L.length))) w2 from ⟨rfl, ⟨asc_joinR (unhid HA), unhid HV, _, _, _, _, hk3, (unhid HK).c⟩, (unhid HG).andThen hg2 (fun j hj => .inr hj)⟩)
      clear hg2 hk3
      go_wp2_with fail
      go_ret
      exact unhid HP

end Go.Proofs.Ytegghimjmbgghaa
