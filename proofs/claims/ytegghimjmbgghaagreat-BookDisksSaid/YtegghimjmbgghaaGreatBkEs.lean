/-
  SameEntries of equal lists; the entries of a log.
-/
import Derived.Test.YtegghimjmbgghaaGreatBkEn
set_option linter.unusedSimpArgs false
set_option linter.unusedVariables false
namespace Go.Proofs.YtegghimjmbgghaaGreat
open Go.RowKit Go.Shelf

theorem ents_at {L M : List Ent} (h : ents L = ents M) {k : Nat} (h1 : k < L.length) (h2 : k < M.length) : L[k].l = M[k].l := by
  have e : (ents L)[k]? = (ents M)[k]? := by rw [h]
  simp only [ents, List.getElem?_map, List.getElem?_eq_getElem h1, List.getElem?_eq_getElem h2, Option.map_some, Option.some.injEq] at e
  exact e
set_option maxHeartbeats 4000000 in
set_option maxRecDepth 100000 in
theorem sameEntries_true (L M : List Ent) (hE : ents L = ents M) (A A2 : Option Addr) (c c2 : Nat) (w : World) (h1 : EnsRd w A L) (h2 : EnsRd w A2 M) (hl : L.length ≤ 1000000) :
    Calls Tryz.prog 39 #[.slice A L.length c, .slice A2 M.length c2] w fun e w' => e = .returned (.bool true) ∧ Below w.heap.size w w' := by
  have HE := hid hE
  have HR1 := hid h1
  have HR2 := hid h2
  have HLL := hid hl
  have hLM : L.length = M.length := by rw [← ents_len L, ← ents_len M, hE]
  have HLM := hid hLM
  rw [← hLM]
  clear h1 h2 hl hE hLM
  go_enter Tryz.func39, Tryz.ntmps39
  go_upto_region 4 with (fail)
  go_loopw [5] (fun iv wr => ∃ k : Nat, k ≤ L.length ∧ iv = .int .i64 k ∧ Below w.heap.size w wr) (fun iv _ => L.length - (intOf iv).toNat)
  case atStart => exact ⟨0, Nat.zero_le _, rfl, Below.refl _ _⟩
  case round =>
    obtain ⟨k, hk, rfl, hb⟩ := hrel
    have HB := hid hb
    clear hb
    by_cases hlt : k < L.length
    · have hki : (k : Int) < (L.length : Int) := by omega
      have hlt2 : k < M.length := by rw [← unhid HLM]; exact hlt
      have HQ1 := hid ((unhid HR1).below (unhid HB))
      have HQ2 := hid ((unhid HR2).below (unhid HB))
      obtain ⟨b1, o1, hA1, hbl1, hc1⟩ := (unhid HQ1).rd (ens_ne hlt)
      obtain ⟨b2, o2, hA2, hbl2, hc2⟩ := (unhid HQ2).rd (ens_ne hlt2)
      have hl := ents_at (unhid HE) hlt hlt2
      have hx1 := (unhid HQ1).ok _ (List.getElem_mem hlt)
      have hx2 := (unhid HQ2).ok _ (List.getElem_mem hlt2)
      have e1 := hc1 k _ (ens_at hlt)
      have e2 := hc2 k _ (ens_at hlt2)
      obtain ⟨x, hx⟩ : ∃ x, x = L[k] := ⟨_, rfl⟩
      obtain ⟨y, hy⟩ : ∃ y, y = M[k] := ⟨_, rfl⟩
      rw [← hx] at hx1 e1 hl
      rw [← hy] at hx2 e2 hl
      unfold enV at e1 e2
      rw [← hl] at hx2 e2
      have HX1 := hid hx1
      have HX2 := hid hx2
      subst hA1 hA2
      have r0 := fun p : After wr => After.cell (by dsimp only; exact hbl1) e1 p
      have q0 := fun p : After wr => After.cell (by dsimp only; exact hbl2) e2 p
      have cv1 : ∀ p : After wr, (convert 52 9 (.slice x.A x.l.length x.c)).run Tryz.prog p.w = .ok (.string ⟨x.l.toArray⟩) p.w := fun p => conv_bytes ((unhid HX1).below p.below) x.c
      have cv2 : ∀ p : After wr, (convert 52 9 (.slice y.A x.l.length y.c)).run Tryz.prog p.w = .ok (.string ⟨x.l.toArray⟩) p.w := fun p => conv_bytes ((unhid HX2).below p.below) y.c
      have HW1 := hid (show wrap64 ((k : Int) + 1) = ((k + 1 : Nat) : Int) from by have h1 := unhid HLL; unfold wrap64; omega)
      clear hc1 hc2 hx1 hx2 hx hy hl
      go_upto_region 6 with (fail)
      (refine wp_region_below (by kernel_rfl) (by kernel_rfl) ?_; (repeat (go_big_quiet_step (first | fail))); refine wpQuiet_nil ?_; intro wq hw'; obtain ⟨⟨wq2, hbq⟩, hw''⟩ := hw'; dsimp only at hw''; subst hw'')
      clear r0 q0 e1 e2 cv1 cv2 HX1 HX2
      have HB := hid ((unhid HB).trans (hbq.mono (unhid HB).size))
      clear hbq
      go_wp2_with fail
      go_roundw
      case rel => exact ⟨k + 1, by omega, by first | go_num | rw [unhid HW1], unhid HB⟩
      case measure => first | (simp [intOf]; done) | (simp [intOf]; omega) | (rw [unhid HW1]; simp [intOf]; omega)
    · obtain rfl : k = L.length := by omega
      go_wp2_with fail
      go_ret
      exact ⟨rfl, unhid HB⟩

/-- A log in a block. -/
structure LoAt (w : World) (base lo Bl B : Nat) (life : Int) (fl : Bool) (v : Value) (L : List Ent) : Prop where
  b : w.heap[Bl]? = some (.cells #[.pointer (some ⟨B, 0, none⟩), .int .i64 life, .bool fl, v] 100 (0, 0))
  e : EnsAt w base lo v L
theorem LoAt.below {w w' : World} {base lo Bl B : Nat} {life : Int} {fl : Bool} {v : Value} {L : List Ent} (h : LoAt w base lo Bl B life fl v L) (hb : Below w.heap.size w w') : LoAt w' base lo Bl B life fl v L :=
  ⟨(hb.block Bl (Array.getElem?_eq_some_iff.1 h.b).1).trans h.b, h.e.below hb⟩
set_option maxRecDepth 100000 in
theorem kl_none_calls {base lo Bl B : Nat} {life : Int} {fl : Bool} {v : Value} {L : List Ent} (w : World) (h : LoAt w base lo Bl B life fl v L) : Calls Tryz.prog 75 #[.pointer (some ⟨Bl, 0, none⟩)] w fun e w' => e = .returned (.bool false) ∧ w = w' := by
  have c0 := cell_of_row _ Bl 0 _ _ _ h.b
  clear h
  go_enter Tryz.func75, Tryz.ntmps75
  go_wp2_with fail
  go_ret
  exact ⟨rfl, rfl⟩
theorem info_bytes : (Tryz.prog.info? 52).map (fun i => (i.zero, i.size, i.bytes)) = some (some (.slice none 0 0), 1, 24) := by kernel_rfl
theorem en_news (W : World) (A : Option Addr) (n c : Nat) : ∀ j u, ([Value.slice A n c])[j]? = some u → (W.alloc (.cells #[.slice A n c] 52)).cell? ((⟨W.heap.size, 0, none⟩ : Addr).add j) = some u := by
  intro j u hu
  rw [add_at, Nat.zero_add, World.cell?_alloc_new, ← Array.getElem?_toList]
  exact hu
/-- What Entries leaves. -/
def EntsPost (w : World) (ls : List (List UInt8)) (e : Ending) (w' : World) : Prop := ∃ u M, e = .returned u ∧ ents M = ls ∧ EnsAt w' w.heap.size w.heap.size u M ∧ Below w.heap.size w w'
set_option maxHeartbeats 4000000 in
set_option maxRecDepth 100000 in
theorem kentries_calls {base lo Bl B : Nat} {life : Int} {fl : Bool} {v : Value} {L : List Ent} (w : World) (h : LoAt w base lo Bl B life fl v L) (hl : L.length ≤ 1000000) (hll : ∀ e ∈ L, e.l.length ≤ 1000000) :
    Calls Tryz.prog 40 #[.pointer (some ⟨Bl, 0, none⟩)] w fun e w' => EntsPost w (ents L) e w' := by
  obtain ⟨i0, hi, hz0, hz1, hz2⟩ := info_parts info_bytes
  have HK := hid h
  have HL := hid hl
  have HLE := hid hll
  have c3 := cell_of_row _ Bl 3 _ _ _ h.b
  obtain ⟨A, c, hv, hrd⟩ := h.e.rd
  have HRD := hid hrd
  clear h hl hll hrd
  go_enter Tryz.func40, Tryz.ntmps40
  go_wp2_with fail
  refine (kl_none_calls w (unhid HK)).mono ?_
  rintro e w' ⟨rfl, rfl⟩
  subst hv
  go_upto_region 5 with (fail)
  clear c3
  go_loopw [13, 3] (fun iv ov wr => ∃ (k : Nat) (M : List Ent), k ≤ L.length ∧ iv = .int .i64 k ∧ ents M = (ents L).take k ∧ EnsAt wr w.heap.size w.heap.size ov M ∧ Below w.heap.size w wr) (fun iv _ _ => L.length - (intOf iv).toNat)
  case atStart => exact ⟨0, [], Nat.zero_le _, rfl, by simp [ents], EnsAt.nil _ _ _, Below.refl _ _⟩
  case round =>
    obtain ⟨k, M, hk, rfl, hM, he, hb⟩ := hrel
    have HM := hid hM
    have HE := hid he
    have HB := hid hb
    clear hM he hb
    by_cases hlt : k < L.length
    · have hki : (k : Int) < (L.length : Int) := by omega
      have HQ := hid ((unhid HRD).below (unhid HB))
      obtain ⟨b1, o1, hA1, hbl1, hc1⟩ := (unhid HQ).rd (ens_ne hlt)
      have hx1 := (unhid HQ).ok _ (List.getElem_mem hlt)
      have hxl := unhid HLE _ (List.getElem_mem hlt)
      have e1 := hc1 k _ (ens_at hlt)
      have hMk : ents M ++ [L[k].l] = (ents L).take (k + 1) := by
        rw [List.take_succ_eq_append_getElem (by rw [ents_len]; exact hlt), unhid HM]
        simp [ents]
      obtain ⟨x, hx⟩ : ∃ x, x = L[k] := ⟨_, rfl⟩
      rw [← hx] at hx1 hxl e1 hMk
      unfold enV at e1
      have HX1 := hid hx1
      have HMK := hid hMk
      have HXL := hid hxl
      have HML := hid (show M.length ≤ 1000000 from by
        have h1 : (ents M).length = k := by rw [unhid HM, List.length_take, ents_len]; omega
        rw [ents_len] at h1
        have := unhid HL
        omega)
      subst hA1
      have HW1 := hid (show wrap64 ((k : Int) + 1) = ((k + 1 : Nat) : Int) from by have h1 := unhid HL; unfold wrap64; omega)
      clear hc1 hx1 hx hxl hMk
      go_wp2_with fail
      refine (bclone_calls x.l x.A x.c wr (unhid HX1) (unhid HXL)).mono ?_
      rintro e w1 ⟨A', c', rfl, hown1, hb1⟩
      have HE1 := hid ((unhid HE).below hb1)
      have HO1 := hid (own_base hown1 (unhid HB).size)
      have HB1 := hid ((unhid HB).trans (hb1.mono (unhid HB).size))
      clear hown1 hb1 e1
      have hy := (unhid HE1).own
      have hlc : M.length ≤ 1000000 := unhid HML
      have hsz : w.heap.size ≤ w1.heap.size := (unhid HB1).size
      go_wp2_with (at_builtin; refine wpList_append_own _ rfl _ _ 70 rfl w.heap.size 52 i0 (.slice none 0 0) 1 24 Tryz.underlying70 hi hz0 hz1 hz2 rfl (by decide) _ _ _ rfl (hy.alloc _) ⟨w1.heap.size, 0, none⟩ 1 1 [.slice A' x.l.length c'] rfl rfl (en_news w1 A' x.l.length c') (by simp [Value.oneCell']) (by unfold maxLen; omega) (by omega) (by simp; omega) ?_; intro v' w6 hown' hgrow hnil)
      have HE6 := hid ((unhid HE1).push (e := ⟨A', c', x.l⟩) (unhid HO1) hown' hgrow)
      have HB6 := hid (((unhid HB1).trans ((below_alloc w1 _).mono (unhid HB1).size)).grown hgrow (by simp; omega) (fun j e => (own_block_lt hy (g := j) e).1))
      clear hy hlc hsz hown' hgrow hnil
      go_wp2_with fail
      go_roundw
      case rel => exact ⟨k + 1, _, by omega, by first | go_num | rw [unhid HW1], by rw [← unhid HMK]; simp [ents], unhid HE6, unhid HB6⟩
      case measure => first | (simp [intOf]; done) | (simp [intOf]; omega) | (rw [unhid HW1]; simp [intOf]; omega)
    · obtain rfl : k = L.length := by omega
      have HP := hid (show ents M = ents L from by rw [unhid HM, ← ents_len, List.take_length])
      go_wp2_with fail
      go_ret
      exact ⟨_, M, rfl, unhid HP, unhid HE, unhid HB⟩

end Go.Proofs.YtegghimjmbgghaaGreat
