/-
  Forks of both packages; lists of forks compared.
-/
import Derived.Test.YtegghimjmbgghaaGreatBkWt
import Derived.Test.YtegghimjmbgghaaGreatBkEq
import Derived.Test.YtegghimjmbgghaaGreatKitB
set_option linter.unusedSimpArgs false
set_option linter.unusedVariables false
namespace Go.Proofs.YtegghimjmbgghaaGreat
open Go.RowKit Go.Shelf

def fkC (p : Int × Int) : List Value := [.int .i64 p.1, .int .i64 p.2]
def fks (l : List (Int × Int)) : List Value := l.flatMap fkC
theorem fks_len (l : List (Int × Int)) : (fks l).length = l.length * 2 := flat_len (f := fkC) (K := 2) (fun _ => rfl) l
theorem fks_append (l m : List (Int × Int)) : fks (l ++ m) = fks l ++ fks m := by simp [fks]
theorem fks_one (p : Int × Int) : fks [p] = fkC p := by simp [fks]
theorem fks_ne {l : List (Int × Int)} {k : Nat} (h : k < l.length) : fks l ≠ [] := flat_ne (f := fkC) (K := 2) (fun _ => rfl) (by omega) h
theorem fkC_one (p : Int × Int) : ∀ u ∈ fkC p, u.oneCell' = true := by
  intro u hu
  simp only [fkC, List.mem_cons, List.not_mem_nil, or_false] at hu
  rcases hu with rfl | rfl <;> rfl
theorem fk_news (W : World) (p : Int × Int) : ∀ j u, (fkC p)[j]? = some u → (W.alloc (.cells #[.int .i64 p.1, .int .i64 p.2] 114)).cell? ((⟨W.heap.size, 0, none⟩ : Addr).add j) = some u := by
  intro j u hu
  rw [add_at, Nat.zero_add, World.cell?_alloc_new, ← Array.getElem?_toList]
  exact hu
theorem fks_cells {w : World} {b off : Nat} {l : List (Int × Int)} (h : ∀ j u, (fks l)[j]? = some u → w.cell? ⟨b, off + j, none⟩ = some u) {k : Nat} (hk : k < l.length) {x : Int × Int} (hx : l[k]'hk = x) :
    w.cell? ⟨b, off + k * 2, none⟩ = some (.int .i64 x.1) ∧ w.cell? ⟨b, off + k * 2 + 1, none⟩ = some (.int .i64 x.2) := by
  have e : ∀ j, j < 2 → (fks l)[k * 2 + j]? = (fkC x)[j]? := fun j hj => by rw [← hx]; exact flat_at (f := fkC) (K := 2) (fun _ => rfl) l k j hk hj
  have h0 := h (k * 2) _ (e 0 (by omega))
  have h1 := h (k * 2 + 1) _ (e 1 (by omega))
  exact ⟨h0, by rw [Nat.add_assoc]; exact h1⟩
theorem info_fork : (Tryz.prog.info? 114).map (fun i => (i.zero, i.size, i.bytes)) = some (some (.agg #[.int .i64 0, .int .i64 0]), 2, 16) := by kernel_rfl

/-- The forks of the first k tablets. -/
def forkK (L : List Rc) (k : Nat) : List (Int × Int) := ((List.range k).filter fun t => decide (frk L t ≤ 1000000)).map fun t : Nat => ((t : Int) + 1, frk L t)
def forksP (L : List Rc) : List (Int × Int) := forkK L 8
theorem forkK_yes {L : List Rc} {k : Nat} (h : frk L k ≤ 1000000) : forkK L (k + 1) = forkK L k ++ [((k : Int) + 1, frk L k)] := by
  simp [forkK, List.range_succ, List.filter_append, h]
theorem forkK_no {L : List Rc} {k : Nat} (h : ¬ frk L k ≤ 1000000) : forkK L (k + 1) = forkK L k := by
  simp [forkK, List.range_succ, List.filter_append, h]
theorem forkK_len (L : List Rc) (k : Nat) : (forkK L k).length ≤ k := by
  unfold forkK
  rw [List.length_map]
  exact Nat.le_trans (List.length_filter_le _ _) (by simp)
/-- Forks do not depend on the order. -/
theorem frk_perm {S T : List Rc} (hv : ∀ r ∈ S, rcB r = true) (h : ∀ r, r ∈ S ↔ r ∈ T) (t : Nat) : frk S t = frk T t :=
  (isFrk_congr h (frk_is hv t)).eq (frk_is (fun r hr => hv r ((h r).2 hr)) t)
theorem forksP_perm {S T : List Rc} (hv : ∀ r ∈ S, rcB r = true) (h : ∀ r, r ∈ S ↔ r ∈ T) : forksP S = forksP T := by
  unfold forksP forkK
  have e : ∀ t, frk S t = frk T t := frk_perm hv h
  simp only [e]
theorem a8_index (f : Nat → Int) {t : Nat} (ht : t < 8) (w : World) : (Instr.index 80 (.agg #[.int .i64 (f 0), .int .i64 (f 1), .int .i64 (f 2), .int .i64 (f 3), .int .i64 (f 4), .int .i64 (f 5), .int .i64 (f 6), .int .i64 (f 7)]) (.int .i64 (t : Int))).run Tryz.prog w = .ok (.int .i64 (f t)) w := by
  rcases lt8 ht with rfl | rfl | rfl | rfl | rfl | rfl | rfl | rfl <;> kernel_rfl
def FkPost (w : World) (l : List (Int × Int)) (e : Ending) (w' : World) : Prop := ∃ v, e = .returned v ∧ w'.ownsRow w.heap.size 114 2 v l.length (fks l) ∧ Below w.heap.size w w'
structure FkI (w0 : World) (L : List Rc) (k : Nat) (v : Value) (w : World) : Prop where
  own : w.ownsRow w0.heap.size 114 2 v (forkK L k).length (fks (forkK L k))
  b : Below w0.heap.size w0 w
theorem FkI.below {w0 w w' : World} {L : List Rc} {k : Nat} {v : Value} (h : FkI w0 L k v w) (hb : Below w.heap.size w w') : FkI w0 L k v w' := ⟨own_below h.own hb, h.b.trans (hb.mono h.b.size)⟩
theorem fkI_yes {w0 w w1 : World} {L : List Rc} {k : Nat} {v v' : Value} {tmp : Obj} (h : FkI w0 L k v w) (hp : frk L k ≤ 1000000)
    (hown : w1.ownsRow w0.heap.size 114 2 v' ((forkK L k).length + 1) (fks (forkK L k) ++ fkC ((k : Int) + 1, frk L k))) (hg : (w.alloc tmp).grownBy w1 v.ownBlock) : FkI w0 L (k + 1) v' w1 := by
  refine ⟨?_, ?_⟩
  · rw [forkK_yes hp, List.length_append, fks_append, fks_one]; exact hown
  · exact (h.b.alloc h.b.size tmp).grown hg (by simp; have := h.b.size; omega) (fun j hj => (own_block_lt h.own hj).1)
theorem fkI_no {w0 w : World} {L : List Rc} {k : Nat} {v : Value} (h : FkI w0 L k v w) (hp : ¬ frk L k ≤ 1000000) : FkI w0 L (k + 1) v w := by
  refine ⟨?_, h.b⟩
  rw [forkK_no hp]; exact h.own
theorem frk0_iff {L : List Rc} (hv : ∀ r ∈ L, rcB r = true) (t : Nat) : (frk L t ≤ 1000000 → frk0 L t = frk L t ∧ 0 < frk0 L t) ∧ (¬ frk L t ≤ 1000000 → ¬ 0 < frk0 L t) := by
  have := frk_pos hv t
  unfold frk0
  constructor
  · intro h; rw [if_pos h]; exact ⟨rfl, by omega⟩
  · intro h; rw [if_neg h]; omega

set_option maxHeartbeats 4000000 in
set_option maxRecDepth 100000 in
theorem rforks_calls {B : Nat} {L : List Rc} (w : World) (h : RbAt w B L) (hL : L.length ≤ 1000000) :
    Calls Tryz.prog 15 #[.pointer (some ⟨B, 0, none⟩)] w fun e w' => FkPost w (forksP L) e w' := by
  obtain ⟨i0, hi, hz0, hz1, hz2⟩ := info_parts info_fork
  obtain ⟨A, c, A2, c2, hk, hcap⟩ := h.b
  have HK := hid hk
  have HV := hid h.v
  have HA := hid h.asc
  have HLL := hid hL
  clear h hL hk hcap
  go_enter Tryz.func15, Tryz.ntmps15
  go_upto_region 3 with (fail)
  go_loopw [4, 3] (fun iv v wr => ∃ k : Nat, k ≤ 8 ∧ iv = .int .i64 ((k : Int) + 1) ∧ FkI w L k v wr) (fun iv _ _ => 9 - (intOf iv).toNat)
  case atStart => exact ⟨0, Nat.zero_le _, rfl, World.ownsRow_nil _ _ _ _, Below.refl _ _⟩
  case round =>
    obtain ⟨k, hk, rfl, hsp⟩ := hrel
    have HSP := hid hsp
    have HKR := hid ((unhid HK).below hsp.b)
    clear hsp
    by_cases hlt : k < 8
    · have hki : (k : Int) + 1 ≤ 8 := by omega
      go_wp2_with fail
      refine (fork_calls k ((k : Int) + 1) rfl wr (unhid HKR) (unhid HV) (unhid HA) (unhid HLL)).mono ?_
      rintro e w2 ⟨rfl, hb⟩
      have HSP := hid ((unhid HSP).below hb)
      clear hb
      have HFI := hid (frk0_iff (unhid HV) k)
      obtain ⟨q, hq⟩ : ∃ q, frk0 L k = q := ⟨_, rfl⟩
      rw [hq] at HFI ⊢
      clear hq
      by_cases hf : frk L k ≤ 1000000
      · have HF := hid hf
        obtain ⟨hqe, hq0⟩ := (unhid HFI).1 hf
        have HQE := hid hqe
        have hy := (unhid HSP).own
        have hlc : (forkK L k).length ≤ 8 := Nat.le_trans (forkK_len L k) hk
        have hsz := (unhid HSP).b.size
        clear hf hqe
        go_wp2_with (at_builtin; refine wpList_append_own_at _ rfl _ _ 37 rfl w.heap.size 114 i0 (.agg #[.int .i64 0, .int .i64 0]) 2 16 Tryz.underlying37 hi hz0 hz1 hz2 rfl (by decide) _ _ _ rfl (hy.alloc _) ⟨w2.heap.size, 0, none⟩ 1 1 (fkC ((k : Int) + 1, q)) rfl rfl (fk_news w2 ((k : Int) + 1, q)) (fkC_one _) (by unfold maxLen; omega) (by omega) (by simp; omega) ?_; intro v' w6 hown' hgrow hnil hat)
        rw [unhid HQE] at hown'
        have HN := hid (fkI_yes (unhid HSP) (unhid HF) hown' hgrow)
        clear hy hlc hsz hown' hgrow hnil hat
        go_wp2_with fail
        go_roundw
        case rel => exact ⟨k + 1, by omega, by go_num, unhid HN⟩
        case measure => simp [intOf]; omega
      · have hq0 := (unhid HFI).2 hf
        have HN := hid (fkI_no (unhid HSP) hf)
        clear hf
        go_wp2_with fail
        go_roundw
        case rel => exact ⟨k + 1, by omega, by go_num, unhid HN⟩
        case measure => simp [intOf]; omega
    · obtain rfl : k = 8 := by omega
      have HEND := hid (show FkPost w (forksP L) (.returned u3) wr from ⟨_, rfl, (unhid HSP).own, (unhid HSP).b⟩)
      go_wp2_with fail
      go_ret
      exact unhid HEND

set_option maxHeartbeats 4000000 in
set_option maxRecDepth 100000 in
theorem pforks_calls {B m : Nat} {S L : List Rc} (w : World) (h : BkAt w B m S) (hS : S.length ≤ 1000000) (hm : ∀ r, r ∈ S ↔ r ∈ L) :
    Calls Tryz.prog 50 #[.pointer (some ⟨B, 0, none⟩)] w fun e w' => FkPost w (forksP L) e w' := by
  obtain ⟨i0, hi, hz0, hz1, hz2⟩ := info_parts info_fork
  have HK := hid h
  have HS := hid hS
  have HFE := hid (fun t => frk_perm h.v hm t)
  clear h hS
  go_enter Tryz.func50, Tryz.ntmps50
  go_wp2_with (go_at_call 56; refine (none_calls _ (unhid HK)).mono ?_; rintro e w' ⟨rfl, rfl⟩)
  refine (ledger_calls w (unhid HK) (unhid HS)).mono ?_
  rintro e w2 ⟨LB, ms, us, rfl, hl, hup, hsh, hb⟩
  have HL := hid hl
  have HB := hid hb
  have f0 := hl.fork (t := 0) (by omega)
  have f1 := hl.fork (t := 1) (by omega)
  have f2 := hl.fork (t := 2) (by omega)
  have f3 := hl.fork (t := 3) (by omega)
  have f4 := hl.fork (t := 4) (by omega)
  have f5 := hl.fork (t := 5) (by omega)
  have f6 := hl.fork (t := 6) (by omega)
  have f7 := hl.fork (t := 7) (by omega)
  simp only [unhid HFE] at f0 f1 f2 f3 f4 f5 f6 f7
  clear hl hb hup hsh
  go_upto_region 5 with (fail)
  have HX := hid (fun (k : Nat) (hk : k < 8) (w : World) => a8_index (frk L) hk w)
  clear f0 f1 f2 f3 f4 f5 f6 f7
  go_loopw [13, 3] (fun iv v wr => ∃ k : Nat, k ≤ 8 ∧ iv = .int .i64 k ∧ FkI w L k v wr) (fun iv _ _ => 8 - (intOf iv).toNat)
  case atStart => exact ⟨0, Nat.zero_le _, rfl, World.ownsRow_nil _ _ _ _, unhid HB⟩
  case round =>
    obtain ⟨k, hk, rfl, hsp⟩ := hrel
    have HSP := hid hsp
    clear hsp
    by_cases hlt : k < 8
    · have hki : (k : Int) < 8 := by omega
      have hxk := (unhid HX) k hlt
      obtain ⟨q, hq⟩ : ∃ q, frk L k = q := ⟨_, rfl⟩
      rw [hq] at hxk
      have HQE := hid hq
      by_cases hf : q ≤ 1000000
      · have HF := hid (show frk L k ≤ 1000000 from by rw [hq]; exact hf)
        have hy := (unhid HSP).own
        have hlc : (forkK L k).length ≤ 8 := Nat.le_trans (forkK_len L k) hk
        have hsz := (unhid HSP).b.size
        clear hq
        go_wp2_with (at_builtin; refine wpList_append_own_at _ rfl _ _ 37 rfl w.heap.size 114 i0 (.agg #[.int .i64 0, .int .i64 0]) 2 16 Tryz.underlying37 hi hz0 hz1 hz2 rfl (by decide) _ _ _ rfl (hy.alloc _) ⟨wr.heap.size, 0, none⟩ 1 1 (fkC ((k : Int) + 1, q)) rfl rfl (fk_news wr ((k : Int) + 1, q)) (fkC_one _) (by unfold maxLen; omega) (by omega) (by simp; omega) ?_; intro v' w6 hown' hgrow hnil hat)
        rw [← unhid HQE] at hown'
        have HN := hid (fkI_yes (unhid HSP) (unhid HF) hown' hgrow)
        clear hy hlc hsz hown' hgrow hnil hat
        go_wp2_with fail
        go_roundw
        case rel => exact ⟨k + 1, by omega, by go_num, unhid HN⟩
        case measure => simp [intOf]; omega
      · have HN := hid (fkI_no (unhid HSP) (by rw [hq]; exact hf))
        clear hq
        go_wp2_with fail
        go_roundw
        case rel => exact ⟨k + 1, by omega, by go_num, unhid HN⟩
        case measure => simp [intOf]; omega
    · obtain rfl : k = 8 := by omega
      have HEND := hid (show FkPost w (forksP L) (.returned u3) wr from ⟨_, rfl, (unhid HSP).own, (unhid HSP).b⟩)
      go_wp2_with fail
      go_ret
      exact unhid HEND

end Go.Proofs.YtegghimjmbgghaaGreat
