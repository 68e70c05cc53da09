/-
  split, Waiting.
-/
import Derived.Test.YtegghimjmbgghaaGreatBkH
set_option linter.unusedSimpArgs false
set_option linter.unusedVariables false
namespace Go.Proofs.YtegghimjmbgghaaGreat
open Go.RowKit Go.Shelf

/-- The cells of record k of a list. -/
theorem recs_cells {w : World} {b off : Nat} {L : List Rc} (h : ∀ j u, (recs L)[j]? = some u → w.cell? ⟨b, off + j, none⟩ = some u) {k : Nat} (hk : k < L.length) {x : Rc} (hx : L[k] = x) :
    w.cell? ⟨b, off + k * 14, none⟩ = some (.int .i64 x.tab) ∧ w.cell? ⟨b, off + k * 14 + 1, none⟩ = some (.int .i64 x.num) ∧ w.cell? ⟨b, off + k * 14 + 2, none⟩ = some (.int .i64 x.hour) ∧ w.cell? ⟨b, off + k * 14 + 3, none⟩ = some (.int .i64 x.sign) ∧ w.cell? ⟨b, off + k * 14 + 4, none⟩ = some (.int .i64 x.fld) ∧ w.cell? ⟨b, off + k * 14 + 5, none⟩ = some (.int .i64 x.val) ∧
    w.cell? ⟨b, off + k * 14 + 6, none⟩ = some (.int .i64 x.s0) ∧ w.cell? ⟨b, off + k * 14 + 7, none⟩ = some (.int .i64 x.s1) ∧ w.cell? ⟨b, off + k * 14 + 8, none⟩ = some (.int .i64 x.s2) ∧ w.cell? ⟨b, off + k * 14 + 9, none⟩ = some (.int .i64 x.s3) ∧ w.cell? ⟨b, off + k * 14 + 10, none⟩ = some (.int .i64 x.s4) ∧ w.cell? ⟨b, off + k * 14 + 11, none⟩ = some (.int .i64 x.s5) ∧ w.cell? ⟨b, off + k * 14 + 12, none⟩ = some (.int .i64 x.s6) ∧ w.cell? ⟨b, off + k * 14 + 13, none⟩ = some (.int .i64 x.s7) := by
  subst hx
  have f := fun (j : Nat) (hj : j < 14) => flat_at (f := rcC) (K := 14) (fun _ => rfl) L k j hk hj
  exact ⟨h _ _ (f 0 (by omega)), h _ _ (f 1 (by omega)), h _ _ (f 2 (by omega)), h _ _ (f 3 (by omega)), h _ _ (f 4 (by omega)), h _ _ (f 5 (by omega)), h _ _ (f 6 (by omega)), h _ _ (f 7 (by omega)), h _ _ (f 8 (by omega)), h _ _ (f 9 (by omega)), h _ _ (f 10 (by omega)), h _ _ (f 11 (by omega)), h _ _ (f 12 (by omega)), h _ _ (f 13 (by omega))⟩
theorem recs_ne {L : List Rc} {k : Nat} (h : k < L.length) : recs L ≠ [] := flat_ne (f := rcC) (K := 14) (fun _ => rfl) (by omega) h

/-- Two slices do not lie in one row. -/
def Apart (v u : Value) : Prop := ∀ g, v.ownBlock = some g → u.ownBlock ≠ some g
theorem Apart.symm {v u : Value} (h : Apart v u) : Apart u v := fun g h1 h2 => h g h2 h1
theorem apart_nil (u : Value) : Apart (.slice none 0 0) u := fun g h => by simp [Value.ownBlock] at h
theorem own_block_lt {w : World} {base e size n : Nat} {v : Value} {xs : List Value} (h : w.ownsRow base e size v n xs) {g : Nat} (hg : v.ownBlock = some g) : base ≤ g ∧ g < w.heap.size := by
  rcases h.2 with ⟨rfl, _⟩ | ⟨g', cap, cur, rfl, hb, hh, _⟩
  · simp [Value.ownBlock] at hg
  · have : g' = g := by simpa [Value.ownBlock] using hg
    subst this
    exact ⟨hb, (Array.getElem?_eq_some_iff.1 hh).1⟩
theorem two_push {w w1 : World} {base e size n m : Nat} {v v' u : Value} {xs ys : List Value} {tmp : Obj} (hb : base ≤ w.heap.size) (hv : w.ownsRow base e size v n xs) (hu : w.ownsRow base e size u m ys) (ha : Apart v u)
    (hg : (w.alloc tmp).grownBy w1 v.ownBlock) (hat : v'.ownBlock = v.ownBlock ∨ v'.ownBlock = some (w.alloc tmp).heap.size) : w1.ownsRow base e size u m ys ∧ Apart v' u ∧ Below base w w1 := by
  refine ⟨?_, fun g h1 h2 => ?_, ?_⟩
  · refine (hu.alloc tmp).kept hg ?_
    cases hub : u.ownBlock with
    | none => exact .inl rfl
    | some g => exact .inr (fun e => ha g e.symm hub)
  · rcases hat with h | h
    · exact ha g (h ▸ h1) h2
    · rw [h] at h1
      have := own_block_lt hu h2
      have h3 := Option.some.inj h1
      simp at h3
      omega
  · exact ((Below.refl base w).alloc hb tmp).grown hg (by simp; omega) (fun j hj => (own_block_lt hv hj).1)

theorem own_below {w w' : World} {base e size n : Nat} {v : Value} {xs : List Value} (h : w.ownsRow base e size v n xs) (hb : Below w.heap.size w w') : w'.ownsRow base e size v n xs :=
  ⟨h.1, h.2.imp id (fun ⟨g, cap, cur, h1, h2, h3, h4⟩ => ⟨g, cap, cur, h1, h2, (hb.block g (Array.getElem?_eq_some_iff.1 h3).1).trans h3, h4⟩)⟩
/-- What split leaves. -/
def SplitPost (w : World) (S : List Rc) (e : Ending) (w' : World) : Prop :=
  ∃ (v u : Value) (L : List Rc), e = .returned (.tuple #[v, u]) ∧ L.Perm S ∧ Asc L ∧ w'.ownsRow w.heap.size 82 14 v (cntL L).length (recs (cntL L)) ∧ w'.ownsRow w.heap.size 82 14 u (waitL L).length (recs (waitL L)) ∧ Apart v u ∧ Below w.heap.size w w'
/-- How far split has come. -/
structure SplI (wS : World) (L : List Rc) (k : Nat) (v u : Value) (w : World) : Prop where
  yes : w.ownsRow wS.heap.size 82 14 v ((L.take k).filter (cntB L)).length (recs ((L.take k).filter (cntB L)))
  no : w.ownsRow wS.heap.size 82 14 u ((L.take k).filter fun r => !cntB L r).length (recs ((L.take k).filter fun r => !cntB L r))
  a : Apart v u
  b : Below wS.heap.size wS w
theorem SplI.below {wS w w' : World} {L : List Rc} {k : Nat} {v u : Value} (h : SplI wS L k v u w) (hb : Below w.heap.size w w') : SplI wS L k v u w' :=
  ⟨own_below h.yes hb, own_below h.no hb, h.a, h.b.trans (hb.mono h.b.size)⟩

theorem filter_take_yes {α : Type} {L : List α} {p : α → Bool} {k : Nat} (hk : k < L.length) {x : α} (hx : L[k] = x) (hp : p x = true) : (L.take (k + 1)).filter p = (L.take k).filter p ++ [x] := by
  subst hx
  rw [List.take_succ_eq_append_getElem hk, List.filter_append, List.filter_cons_of_pos hp]; rfl
theorem filter_take_no {α : Type} {L : List α} {p : α → Bool} {k : Nat} (hk : k < L.length) {x : α} (hx : L[k] = x) (hp : p x = false) : (L.take (k + 1)).filter p = (L.take k).filter p := by
  subst hx
  rw [List.take_succ_eq_append_getElem hk, List.filter_append, List.filter_cons_of_neg (by rw [hp]; simp)]; simp
theorem spl_yes {wS w w1 : World} {L : List Rc} {k : Nat} {v v' u : Value} {x : Rc} (h : SplI wS L k v u w) (hk : k < L.length) (hx : L[k] = x) (hc : cntB L x = true)
    (hown : w1.ownsRow wS.heap.size 82 14 v' (((L.take k).filter (cntB L)).length + 1) (recs ((L.take k).filter (cntB L)) ++ rcC x))
    (h2 : w1.ownsRow wS.heap.size 82 14 u ((L.take k).filter fun r => !cntB L r).length (recs ((L.take k).filter fun r => !cntB L r)) ∧ Apart v' u ∧ Below wS.heap.size w w1) : SplI wS L (k + 1) v' u w1 := by
  refine ⟨?_, ?_, h2.2.1, h.b.trans h2.2.2⟩
  · rw [filter_take_yes hk hx hc, List.length_append, recs_append, recs_one]; exact hown
  · rw [filter_take_no (p := fun r => !cntB L r) hk hx (by simp [hc])]; exact h2.1
theorem spl_no {wS w w1 : World} {L : List Rc} {k : Nat} {v u u' : Value} {x : Rc} (h : SplI wS L k v u w) (hk : k < L.length) (hx : L[k] = x) (hc : cntB L x = false)
    (hown : w1.ownsRow wS.heap.size 82 14 u' (((L.take k).filter fun r => !cntB L r).length + 1) (recs ((L.take k).filter fun r => !cntB L r) ++ rcC x))
    (h2 : w1.ownsRow wS.heap.size 82 14 v ((L.take k).filter (cntB L)).length (recs ((L.take k).filter (cntB L))) ∧ Apart u' v ∧ Below wS.heap.size w w1) : SplI wS L (k + 1) v u' w1 := by
  refine ⟨?_, ?_, h2.2.1.symm, h.b.trans h2.2.2⟩
  · rw [filter_take_no hk hx hc]; exact h2.1
  · rw [filter_take_yes (p := fun r => !cntB L r) hk hx (by simp [hc]), List.length_append, recs_append, recs_one]; exact hown
theorem own_base {w : World} {base base' e size n : Nat} {v : Value} {xs : List Value} (h : w.ownsRow base e size v n xs) (hb : base' ≤ base) : w.ownsRow base' e size v n xs :=
  ⟨h.1, h.2.imp id (fun ⟨g, cap, cur, h1, h2, h3⟩ => ⟨g, cap, cur, h1, Nat.le_trans hb h2, h3⟩)⟩
theorem spl_end {w0 wS w : World} {S L : List Rc} {v u : Value} (h : SplI wS L L.length v u w) (hp : L.Perm S) (hA : Asc L) (hb : Below w0.heap.size w0 wS) : SplitPost w0 S (.returned (.tuple #[v, u])) w := by
  have h1 := h.yes
  have h2 := h.no
  rw [List.take_length] at h1 h2
  exact ⟨v, u, L, rfl, hp, hA, own_base h1 hb.size, own_base h2 hb.size, h.a, hb.trans (h.b.mono hb.size)⟩

set_option maxHeartbeats 4000000 in
set_option maxRecDepth 100000 in
theorem split_calls {B m : Nat} {S : List Rc} (w : World) (h : BkAt w B m S) (hS : S.length ≤ 1000000) :
    Calls Tryz.prog 58 #[.pointer (some ⟨B, 0, none⟩)] w fun e w' => SplitPost w S e w' := by
  obtain ⟨i0, hi, hz0, hz1, hz2⟩ := info_parts info_rec
  have HK := hid h
  have HV := hid h.v
  have HS := hid hS
  clear h hS
  go_enter Tryz.func58, Tryz.ntmps58
  go_wp2_with (go_at_call 56; refine (none_calls _ (unhid HK)).mono ?_; rintro e w' ⟨rfl, rfl⟩)
  refine (ledger_calls w (unhid HK) (unhid HS)).mono ?_
  rintro e w2 ⟨LB, ms, us, rfl, hl, hup, hsh, hb⟩
  have HL := hid hl
  have HB := hid hb
  have HK := hid ((unhid HK).below' hb)
  have HC := hid (fun r (hr : r ∈ S) => cntB_eq (unhid HV) hup hsh hr)
  clear hl hb hup hsh
  go_wp2_with fail
  refine (records_calls w2 (unhid HK) (unhid HS)).mono ?_
  rintro e w3 ⟨v, L, rfl, hp, hA, hrow, hb⟩
  obtain ⟨A, c, rfl, hrd, -⟩ := own_slice hrow
  have HL := hid ((unhid HL).below hb)
  have HB := hid ((unhid HB).trans (hb.mono (unhid HB).size))
  have HA := hid (⟨hp, hA⟩ : _ ∧ _)
  have HR := hid hrd
  have hLn : L.length ≤ 1000000 := by rw [hp.length_eq]; exact unhid HS
  have HC := hid (fun r (hr : r ∈ L) => (show cntB L r = decide (r.num ≤ us r.tb) by rw [cntB_perm (fun r => hp.mem_iff) r]; exact (unhid HC) r (hp.mem_iff.1 hr)))
  have HVL := hid (fun r (hr : r ∈ L) => (unhid HV) r (hp.mem_iff.1 hr))
  clear hb hp hA hrow hrd
  go_upto_region 5 with (fail)
  go_loopw [14, 2, 3] (fun iv v u wr => ∃ k : Nat, k ≤ L.length ∧ iv = .int .i64 k ∧ SplI w3 L k v u wr) (fun iv _ _ _ => L.length - (intOf iv).toNat)
  case atStart => exact ⟨0, Nat.zero_le _, rfl, World.ownsRow_nil _ _ _ _, World.ownsRow_nil _ _ _ _, apart_nil _, Below.refl _ _⟩
  case round =>
    obtain ⟨k, hk, rfl, hsp⟩ := hrel
    have HSP := hid hsp
    clear hsp
    by_cases hlt : k < L.length
    · have hki : (k : Int) < (L.length : Int) := by omega
      obtain ⟨b, off, rfl, hbl, hc⟩ := ((unhid HR).below (unhid HSP).b) (recs_ne hlt)
      obtain ⟨x, hx⟩ : ∃ x, L[k] = x := ⟨_, rfl⟩
      obtain ⟨m0, m1, m2, m3, m4, m5, m6, m7, m8, m9, m10, m11, m12, m13⟩ := recs_cells hc hlt hx
      have HX := hid hx
      have hxL : x ∈ L := hx ▸ List.getElem_mem hlt
      have HXL := hid hxL
      have HXV := hid ((unhid HVL) x hxL)
      clear hx hc hxL
      go_upto_region 7 with (fail)
      change Code.wp _ _ _ _ (wr.alloc (.cells (rcA x) 82))
      have hb0 := below_alloc wr (.cells (rcA x) 82)
      have HXA := hid (RcAt.new wr x)
      have HSP := hid ((unhid HSP).below hb0)
      clear m0 m1 m2 m3 m4 m5 m6 m7 m8 m9 m10 m11 m12 m13 hb0 hbl
      obtain ⟨X, hX⟩ : ∃ X, X = wr.heap.size := ⟨_, rfl⟩
      rw [← hX] at HXA ⊢
      clear hX
      generalize wr.alloc (.cells (rcA x) 82) = W1 at *
      obtain ⟨c0, c1, c2, c3, c4, c5⟩ := (unhid HXA).cells
      obtain ⟨e0, e1, e2, e3, e4, e5, e6, e7⟩ := (unhid HXA).seen8
      go_wp2_with fail
      refine (counts_calls x W1 ((unhid HL).below ((unhid HSP).b)) (unhid HXV)).mono ?_
      rintro e w5 ⟨rfl, hb5⟩
      have HSP := hid ((unhid HSP).below hb5)
      have HXA := hid ((unhid HXA).below hb5 (unhid HXA).lt)
      clear c0 c1 c2 c3 c4 c5 e0 e1 e2 e3 e4 e5 e6 e7 hb5
      obtain ⟨c0, c1, c2, c3, c4, c5⟩ := (unhid HXA).cells
      obtain ⟨e0, e1, e2, e3, e4, e5, e6, e7⟩ := (unhid HXA).seen8
      cases hcb : decide (x.num ≤ us x.tb) with
      | true =>
        have HCB := hid (((unhid HC) x (unhid HXL)).trans hcb)
        clear hcb
        have hy := (unhid HSP).yes
        have hlc : ((L.take k).filter (cntB L)).length ≤ 1000000 := Nat.le_trans (List.length_filter_le _ _) (by rw [List.length_take]; omega)
        have hsz := (unhid HSP).b.size
        go_wp2_with (at_builtin; refine wpList_append_own_at _ rfl _ _ 22 rfl w3.heap.size 82 i0 (.agg (rcA rc0)) 14 112 Tryz.underlying22 hi hz0 hz1 hz2 rfl (by decide) _ _ _ rfl (hy.alloc _) ⟨w5.heap.size, 0, none⟩ 1 1 (rcC x) rfl rfl (rc_news w5 x) (rcC_one1 x) (by unfold maxLen; omega) (by omega) (by simp; omega) ?_; intro v' w6 hown' hgrow hnil hat)
        have h2 := two_push hsz hy (unhid HSP).no (unhid HSP).a hgrow hat
        have HN := hid (spl_yes (unhid HSP) hlt (unhid HX) (unhid HCB) hown' h2)
        clear hy hlc hsz hown' hgrow hnil hat h2 c0 c1 c2 c3 c4 c5 e0 e1 e2 e3 e4 e5 e6 e7
        go_wp2_with fail
        go_roundw
        case rel => exact ⟨k + 1, by omega, by go_num, unhid HN⟩
        case measure => simp [intOf]; omega
      | false =>
        have HCB := hid (((unhid HC) x (unhid HXL)).trans hcb)
        clear hcb
        have hy := (unhid HSP).no
        have hlc : ((L.take k).filter fun r => !cntB L r).length ≤ 1000000 := Nat.le_trans (List.length_filter_le _ _) (by rw [List.length_take]; omega)
        have hsz := (unhid HSP).b.size
        go_wp2_with (at_builtin; refine wpList_append_own_at _ rfl _ _ 22 rfl w3.heap.size 82 i0 (.agg (rcA rc0)) 14 112 Tryz.underlying22 hi hz0 hz1 hz2 rfl (by decide) _ _ _ rfl (hy.alloc _) ⟨w5.heap.size, 0, none⟩ 1 1 (rcC x) rfl rfl (rc_news w5 x) (rcC_one1 x) (by unfold maxLen; omega) (by omega) (by simp; omega) ?_; intro v' w6 hown' hgrow hnil hat)
        have h2 := two_push hsz hy (unhid HSP).yes (unhid HSP).a.symm hgrow hat
        have HN := hid (spl_no (unhid HSP) hlt (unhid HX) (unhid HCB) hown' h2)
        clear hy hlc hsz hown' hgrow hnil hat h2 c0 c1 c2 c3 c4 c5 e0 e1 e2 e3 e4 e5 e6 e7
        go_wp2_with fail
        go_roundw
        case rel => exact ⟨k + 1, by omega, by go_num, unhid HN⟩
        case measure => simp [intOf]; omega
    · obtain rfl : k = L.length := by omega
      have HEND := hid (spl_end (unhid HSP) (unhid HA).1 (unhid HA).2 (unhid HB))
      go_wp2_with fail
      go_ret2
      exact unhid HEND

end Go.Proofs.YtegghimjmbgghaaGreat
