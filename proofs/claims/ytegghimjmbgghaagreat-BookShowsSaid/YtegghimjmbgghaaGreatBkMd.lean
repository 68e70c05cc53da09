/-
  made of the laws: both books of the same records.
-/
import Derived.Test.YtegghimjmbgghaaGreatBkFk
import Derived.OwnWalk
set_option linter.unusedSimpArgs false
set_option linter.unusedVariables false
namespace Go.Proofs.YtegghimjmbgghaaGreat
open Go.RowKit Go.Shelf

theorem addE_congr {S L : List Rc} (h : ∀ r, r ∈ S ↔ r ∈ L) (r : Rc) : addE S r = addE L r := by
  unfold addE
  by_cases hm : r ∈ S
  · rw [if_pos hm, if_pos ((h r).1 hm)]
  · rw [if_neg hm, if_neg (fun h2 => hm ((h r).2 h2))]
theorem add_same {S L : List Rc} (h : ∀ r, r ∈ S ↔ r ∈ L) (r : Rc) : ∀ x, x ∈ addS S r ↔ x ∈ raddL L r := fun x => by
  unfold addS raddL
  by_cases hv : rcB r = true
  · rw [if_pos hv, mem_addR]
    by_cases hm : r ∈ S
    · rw [if_neg (fun h => h.2 hm), h x]
      exact ⟨.inr, fun h2 => h2.elim (fun e => by rw [e]; exact (h r).1 hm) id⟩
    · rw [if_pos ⟨hv, hm⟩, List.mem_append, List.mem_singleton, h x]
      exact ⟨fun h => h.symm, fun h => h.symm⟩
  · rw [if_neg hv, if_neg (fun h => hv h.1)]
    exact h x
theorem len_addS (S : List Rc) (r : Rc) : (addS S r).length ≤ S.length + 1 := by
  unfold addS
  split
  · simp
  · omega
theorem len_raddL (L : List Rc) (r : Rc) : (raddL L r).length ≤ L.length + 1 := by
  unfold raddL
  split
  · exact len_addR r L
  · omega
/-- Two books of the same records, in memory of their own. -/
structure Two (w0 : World) (B m B2 : Nat) (S L : List Rc) (n : Nat) (w : World) : Prop where
  bk : BkAt w B m S
  rb : RbAt w B2 L
  same : ∀ r, r ∈ S ↔ r ∈ L
  lS : S.length ≤ n
  lL : L.length ≤ n
  fr : w0.heap.size ≤ B ∧ w0.heap.size ≤ m ∧ w0.heap.size ≤ B2
  b : Below w0.heap.size w0 w
theorem Two.below {w0 w w' : World} {B m B2 n : Nat} {S L : List Rc} (h : Two w0 B m B2 S L n w) (hb : Below w.heap.size w w') : Two w0 B m B2 S L n w' :=
  ⟨h.bk.below' hb, h.rb.below hb, h.same, h.lS, h.lL, h.fr, h.b.trans (hb.mono h.b.size)⟩
/-- Add to both. -/
theorem Two.add {w0 w w1 w2 : World} {B m B2 n : Nat} {S L : List Rc} {r : Rc} (h : Two w0 B m B2 S L n w) (hk : BkAt w1 B m (addS S r)) (hg : w.grownBy w1 (some m)) (hr : RbAt w2 B2 (raddL L r)) (hg2 : w1.grownBy w2 (some B2)) :
    Two w0 B m B2 (addS S r) (raddL L r) (n + 1) w2 := by
  obtain ⟨h1, h2⟩ := bk_rb h.bk h.rb
  refine ⟨hk.grown hg2 (fun e => h1 (Option.some.inj e)) (fun e => h2 (Option.some.inj e)), hr, add_same h.same r, ?_, ?_, h.fr, ?_⟩
  · have := len_addS S r; have := h.lS; omega
  · have := len_raddL L r; have := h.lL; omega
  · exact (h.b.grown hg h.b.size (fun j e => by cases e; exact h.fr.2.1)).grown hg2 (Nat.le_trans h.b.size hg.size) (fun j e => by cases e; exact h.fr.2.2)
theorem Two.rb1 {w0 w w1 : World} {B m B2 n : Nat} {S L S' : List Rc} (h : Two w0 B m B2 S L n w) (hk : BkAt w1 B m S') (hg : w.grownBy w1 (some m)) : RbAt w1 B2 L :=
  h.rb.grown h.bk.noNum hg (fun e => (bk_rb h.bk h.rb).2 e.symm)

def MdPost (w : World) (n : Nat) (e : Ending) (w' : World) : Prop :=
  ∃ B m B2 S L, e = .returned (.tuple #[.pointer (some ⟨B, 0, none⟩), .pointer (some ⟨B2, 0, none⟩), .bool true]) ∧ Two w B m B2 S L n w'

set_option maxHeartbeats 8000000 in
set_option maxRecDepth 100000 in
theorem made_calls (l : List Rc) (A : Option Addr) (c : Nat) (w : World) (h : Rd w A (recs l)) (hL : l.length ≤ 1000) :
    Calls Tryz.prog 8 #[.slice A l.length c] w fun e w' => MdPost w l.length e w' := by
  have HRD := hid h
  have HLL := hid hL
  clear h hL
  go_enter Tryz.func8, Tryz.ntmps8
  go_wp2_with fail
  refine (bookNew_calls w).mono ?_
  rintro e W1 ⟨rfl, hk1, hb1⟩
  go_wp2_with fail
  have hm := rmade_calls [] none 0 W1 (Rd.nil _ _) (fun r hr => by simp at hr) (by simp)
  refine hm.mono ?_
  rintro e W2 ⟨B2, rfl, hB2, hr2, hb2⟩
  have HT := hid (⟨hk1.below' hb2, hr2, fun r => by simp [setR], by simp, by simp [setR], ⟨by omega, Nat.le_refl _, Nat.le_trans hb1.size hB2⟩, hb1.trans (hb2.mono hb1.size)⟩ : Two w (w.heap.size + 1) w.heap.size B2 [] (setR []) 0 W2)
  clear hk1 hb1 hm hB2 hr2 hb2
  obtain ⟨B, hB⟩ : ∃ B, B = w.heap.size + 1 := ⟨_, rfl⟩
  obtain ⟨m, hm⟩ : ∃ m, m = w.heap.size := ⟨_, rfl⟩
  rw [← hB] at HT ⊢
  have HT2 := hid (show Two w B m B2 [] (setR []) 0 W2 from by rw [hm]; exact unhid HT)
  clear hB hm HT
  go_upto_region 3 with (fail)
  go_loopw [7] (fun iv wr => ∃ (k : Nat) (S L : List Rc), k ≤ l.length ∧ iv = .int .i64 k ∧ Two w B m B2 S L k wr) (fun iv _ => l.length - (intOf iv).toNat)
  case atStart => exact ⟨0, _, _, Nat.zero_le _, rfl, unhid HT2⟩
  case round =>
    clear HT2
    obtain ⟨k, S, L, hk, rfl, ht⟩ := hrel
    have HT := hid ht
    clear ht
    by_cases hlt : k < l.length
    · have hki : (k : Int) < (l.length : Int) := by omega
      obtain ⟨b, off, hAe, hbl, hc⟩ := (unhid HRD) (recs_ne hlt)
      subst hAe
      obtain ⟨x, hx⟩ : ∃ x, l[k]'hlt = x := ⟨_, rfl⟩
      have HC := hid (rec_at14 hc hlt hx)
      have HBL := hid hbl
      clear hc hx hbl
      have HSF := hid (show ∀ w', Below w.heap.size w w' → (w'.cell? ⟨b, off + k * 14, none⟩ = some (.int .i64 x.tab) ∧ w'.cell? ⟨b, off + k * 14 + 1, none⟩ = some (.int .i64 x.num) ∧ w'.cell? ⟨b, off + k * 14 + 2, none⟩ = some (.int .i64 x.hour) ∧ w'.cell? ⟨b, off + k * 14 + 3, none⟩ = some (.int .i64 x.sign) ∧ w'.cell? ⟨b, off + k * 14 + 4, none⟩ = some (.int .i64 x.fld) ∧ w'.cell? ⟨b, off + k * 14 + 5, none⟩ = some (.int .i64 x.val) ∧ w'.cell? ⟨b, off + k * 14 + 6, none⟩ = some (.int .i64 x.s0) ∧ w'.cell? ⟨b, off + k * 14 + 7, none⟩ = some (.int .i64 x.s1) ∧ w'.cell? ⟨b, off + k * 14 + 8, none⟩ = some (.int .i64 x.s2) ∧ w'.cell? ⟨b, off + k * 14 + 9, none⟩ = some (.int .i64 x.s3) ∧ w'.cell? ⟨b, off + k * 14 + 10, none⟩ = some (.int .i64 x.s4) ∧ w'.cell? ⟨b, off + k * 14 + 11, none⟩ = some (.int .i64 x.s5) ∧ w'.cell? ⟨b, off + k * 14 + 12, none⟩ = some (.int .i64 x.s6) ∧ w'.cell? ⟨b, off + k * 14 + 13, none⟩ = some (.int .i64 x.s7)) from fun w' hb => (unhid HC).below hb (unhid HBL))
      go_upto_region 5 with (fail)
      refine wp_region_noPanic ?_
      refine wp_region_E (S := fun w' => (w'.cell? ⟨b, off + k * 14, none⟩ = some (.int .i64 x.tab) ∧ w'.cell? ⟨b, off + k * 14 + 1, none⟩ = some (.int .i64 x.num) ∧ w'.cell? ⟨b, off + k * 14 + 2, none⟩ = some (.int .i64 x.hour) ∧ w'.cell? ⟨b, off + k * 14 + 3, none⟩ = some (.int .i64 x.sign) ∧ w'.cell? ⟨b, off + k * 14 + 4, none⟩ = some (.int .i64 x.fld) ∧ w'.cell? ⟨b, off + k * 14 + 5, none⟩ = some (.int .i64 x.val) ∧ w'.cell? ⟨b, off + k * 14 + 6, none⟩ = some (.int .i64 x.s0) ∧ w'.cell? ⟨b, off + k * 14 + 7, none⟩ = some (.int .i64 x.s1) ∧ w'.cell? ⟨b, off + k * 14 + 8, none⟩ = some (.int .i64 x.s2) ∧ w'.cell? ⟨b, off + k * 14 + 9, none⟩ = some (.int .i64 x.s3) ∧ w'.cell? ⟨b, off + k * 14 + 10, none⟩ = some (.int .i64 x.s4) ∧ w'.cell? ⟨b, off + k * 14 + 11, none⟩ = some (.int .i64 x.s5) ∧ w'.cell? ⟨b, off + k * 14 + 12, none⟩ = some (.int .i64 x.s6) ∧ w'.cell? ⟨b, off + k * 14 + 13, none⟩ = some (.int .i64 x.s7))) 12 13 rfl (by kernel_rfl) (by kernel_rfl) ((unhid HSF) _ (Below.drew (unhid HT).b)) ?_
      intro hSE
      have HT := hid ((unhid HT).below (Below.drew (Below.refl wr.heap.size wr)))
      generalize wr.drew = Wd at *
      (refine WE_take (i := 0) (v := ?_) rfl (by kernel_rfl) (by decide) (by kernel_rfl) (by kernel_rfl) (fun _ _ _ h => h) (by rfl) hSE ?_ ?_; rotate_left; (focus (intro w hSw; (try dsimp only at hSw); go_simp; (try with_reducible rfl))); simp only [Act.put, List.setIfInBounds_toArray, List.set_cons_zero, List.set_cons_succ])
      (refine WE_take (i := 1) (v := ?_) rfl (by kernel_rfl) (by decide) (by kernel_rfl) (by kernel_rfl) (fun _ _ _ h => h) (by rfl) hSE ?_ ?_; rotate_left; (focus (intro w hSw; (try dsimp only at hSw); go_simp; (try with_reducible rfl))); simp only [Act.put, List.setIfInBounds_toArray, List.set_cons_zero, List.set_cons_succ])
      (refine WE_take (i := 2) (v := ?_) rfl (by kernel_rfl) (by decide) (by kernel_rfl) (by kernel_rfl) (fun _ _ _ h => h) (by rfl) hSE ?_ ?_; rotate_left; (focus (intro w hSw; (try dsimp only at hSw); go_simp; (try with_reducible rfl))); simp only [Act.put, List.setIfInBounds_toArray, List.set_cons_zero, List.set_cons_succ])
      (refine WE_take (i := 3) (v := ?_) rfl (by kernel_rfl) (by decide) (by kernel_rfl) (by kernel_rfl) (fun _ _ _ h => h) (by rfl) hSE ?_ ?_; rotate_left; (focus (intro w hSw; (try dsimp only at hSw); go_simp; (try with_reducible rfl))); simp only [Act.put, List.setIfInBounds_toArray, List.set_cons_zero, List.set_cons_succ])
      (refine WE_take (i := 4) (v := ?_) rfl (by kernel_rfl) (by decide) (by kernel_rfl) (by kernel_rfl) (fun _ _ _ h => h) (by rfl) hSE ?_ ?_; rotate_left; (focus (intro w hSw; (try dsimp only at hSw); go_simp; (try with_reducible rfl))); simp only [Act.put, List.setIfInBounds_toArray, List.set_cons_zero, List.set_cons_succ])
      (refine WE_take (i := 6) (v := ?_) rfl (by kernel_rfl) (by decide) (by kernel_rfl) (by kernel_rfl) (fun _ _ _ h => h) (by rfl) hSE ?_ ?_; rotate_left; (focus (intro w hSw; (try dsimp only at hSw); go_simp; (try with_reducible rfl))); simp only [Act.put, List.setIfInBounds_toArray, List.set_cons_zero, List.set_cons_succ])
      (refine WE_take (i := 7) (v := ?_) rfl (by kernel_rfl) (by decide) (by kernel_rfl) (by kernel_rfl) (fun _ _ _ h => h) (by rfl) hSE ?_ ?_; rotate_left; (focus (intro w hSw; (try dsimp only at hSw); go_simp; (try with_reducible rfl))); simp only [Act.put, List.setIfInBounds_toArray, List.set_cons_zero, List.set_cons_succ])
      (refine WE_take (i := 8) (v := ?_) rfl (by kernel_rfl) (by decide) (by kernel_rfl) (by kernel_rfl) (fun _ _ _ h => h) (by rfl) hSE ?_ ?_; rotate_left; (focus (intro w hSw; (try dsimp only at hSw); go_simp; (try with_reducible rfl))); simp only [Act.put, List.setIfInBounds_toArray, List.set_cons_zero, List.set_cons_succ])
      (refine WE_take (i := 9) (v := ?_) rfl (by kernel_rfl) (by decide) (by kernel_rfl) (by kernel_rfl) (fun _ _ _ h => h) (by rfl) hSE ?_ ?_; rotate_left; (focus (intro w hSw; (try dsimp only at hSw); go_simp; (try with_reducible rfl))); simp only [Act.put, List.setIfInBounds_toArray, List.set_cons_zero, List.set_cons_succ])
      (refine WE_take (i := 10) (v := ?_) rfl (by kernel_rfl) (by decide) (by kernel_rfl) (by kernel_rfl) (fun _ _ _ h => h) (by rfl) hSE ?_ ?_; rotate_left; (focus (intro w hSw; (try dsimp only at hSw); go_simp; (try with_reducible rfl))); simp only [Act.put, List.setIfInBounds_toArray, List.set_cons_zero, List.set_cons_succ])
      (refine WE_one (i := 5) rfl (by decide) (by kernel_rfl) ?_; intro K hK)
      go_simp
      go_at_call 49
      refine (add_calls x Wd (unhid HT).bk (by have := (unhid HT).lS; have := unhid HLL; omega)).mono ?_
      rintro e w5 ⟨rfl, hk5, hg5⟩
      have HR5 := hid ((unhid HT).rb1 hk5 hg5)
      have HB5 := hid ((unhid HT).b.grown hg5 (unhid HT).b.size (fun j e => by cases e; exact (unhid HT).fr.2.1))
      have HK5 := hid hk5
      have HG5 := hid hg5
      clear hk5 hg5
      refine hK.out _ _ ((unhid HSF) _ (unhid HB5)) ?_
      clear hSE hK K
      intro hSE
      (try simp only [Act.put, List.setIfInBounds_toArray, List.set_cons_zero, List.set_cons_succ])
      (refine WE_one (i := 11) rfl (by decide) (by kernel_rfl) ?_; intro K hK)
      go_simp
      go_at_call 55
      refine (radd_calls x w5 (unhid HR5) (by have := (unhid HT).lL; have := unhid HLL; omega)).mono ?_
      rintro e w6 ⟨rfl, hr6, hg6⟩
      have HT6 := hid ((unhid HT).add (unhid HK5) (unhid HG5) hr6 hg6)
      clear hr6 hg6
      refine hK.out _ _ ((unhid HSF) _ (unhid HT6).b) ?_
      clear hSE hK K
      intro hSE
      (try simp only [Act.put, List.setIfInBounds_toArray, List.set_cons_zero, List.set_cons_succ])
      rw [addE_congr (unhid HT).same x]
      (refine WE_last rfl (by kernel_rfl) (by kernel_rfl) (by kernel_rfl) ?_; intro K hK; go_simp; refine hK.out _ _ (NoPanic.normal ?_); clear hK K)
      clear HSF HC HR5 HB5 HK5 HG5 hSE HT
      have HW1 := hid (show wrap64 ((k : Int) + 1) = ((k + 1 : Nat) : Int) from by have h1 := unhid HLL; unfold wrap64; omega)
      go_wp2_with fail
      go_roundw
      case rel => exact ⟨k + 1, _, _, by omega, by rw [unhid HW1], unhid HT6⟩
      case measure => rw [unhid HW1]; simp [intOf]; omega
    · obtain rfl : k = l.length := by omega
      have HP := hid (show MdPost w l.length (.returned (.tuple #[.pointer (some ⟨B, 0, none⟩), .pointer (some ⟨B2, 0, none⟩), .bool true])) wr from ⟨B, m, B2, S, L, rfl, unhid HT⟩)
      go_wp2_with fail
      go_ret3
      exact unhid HP

end Go.Proofs.YtegghimjmbgghaaGreat
