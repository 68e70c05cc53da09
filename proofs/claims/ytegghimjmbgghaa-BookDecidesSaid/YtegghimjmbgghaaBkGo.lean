/-
  Books that are only written: every record counts. The law's write.
-/
import Derived.Test.YtegghimjmbgghaaBkX
import Derived.Test.YtegghimjmbgghaaBkRg
import Derived.Test.YtegghimjmbgghaaBkNt
set_option linter.unusedSimpArgs false
set_option linter.unusedVariables false
namespace Go.Proofs.Ytegghimjmbgghaa
open Go.RowKit Go.Shelf

/-! ### Plain -/
/-- What counts keeps counting in a greater book in which its tablet is straight up to it. -/
theorem cnt_more {S T : List Rc} (hsub : ∀ r ∈ S, r ∈ T) {x : Rc} (h : Cnt S x) : Straight T x.tb x.num → Cnt T x := by
  induction h with
  | mk x hx hst ha hc ih =>
    intro hT
    have hdown : ∀ t n, Straight T t n → Straight S t n := fun t n h a ha b hb => h a (hsub a ha) b (hsub b hb)
    refine .mk x (hsub x hx) hT (fun s h1 n h2 h3 h4 => ?_) (fun q hq h1 h2 h3 h4 => ?_)
    · obtain ⟨q, hq, e⟩ := ha s h1 n h2 h3 (hdown _ _ h4)
      exact ⟨q, hsub q hq, e⟩
    · obtain ⟨q0, hq0, e1, e2⟩ := ha q.tb h1 q.num h2 h3 (hdown _ _ h4)
      have e : q = q0 := h4 q hq q0 (hsub q0 hq0) rfl e1 e2.symm (Int.le_refl _)
      subst e
      exact ih q hq0 h1 h2 h3 (hdown _ _ h4) h4
/-- Every record counts. -/
def Good (S : List Rc) : Prop := ∀ r ∈ S, Cnt S r
/-- Of two records one had seen the other one. -/
def Chain (S : List Rc) : Prop := ∀ r ∈ S, ∀ q ∈ S, r ≠ q → befB r q = true ∨ befB q r = true
section
variable {S : List Rc}
theorem Good.straight (hG : Good S) (t : Nat) (n : Int) : Straight S t n := fun r hr q hq e1 e2 e3 _ => (hG r hr).straight r hr q hq rfl (by rw [e2, e1]) e3 (Int.le_refl _)
theorem Good.up (hv : ∀ r ∈ S, rcB r = true) (hG : Good S) {r : Rc} (hr : r ∈ S) : r.num ≤ upT S r.tb := cnt_le hv (upT_up S) (upT_shut hv) (hG r hr)
theorem Good.seen (hv : ∀ r ∈ S, rcB r = true) (hG : Good S) {r : Rc} (hr : r ∈ S) {s : Nat} (hs : s < 8) : r.sn s ≤ upT S s := by
  rcases Int.lt_or_le 0 (r.sn s) with h | h
  · have hc := hG r hr
    cases hc with
    | mk _ _ _ ha _ =>
      obtain ⟨q, hq, e1, e2⟩ := ha s hs (r.sn s) (by omega) (Int.le_refl _) (hG.straight _ _)
      have := hG.up hv hq
      rw [e1, e2] at this
      exact this
  · have := (upT_up S).pos s
    omega
theorem Good.frk (hv : ∀ r ∈ S, rcB r = true) (hG : Good S) (t : Nat) : ¬ frk S t ≤ 1000000 := fun h => by
  obtain ⟨r, hr, q, hq, e1, e2, e3, e4, hne⟩ := (frk_is hv t).is h
  exact hne (hG.straight t r.num r hr q hq e1 e2 (by rw [e3, e4]) (Int.le_refl _))
theorem Good.num (hv : ∀ r ∈ S, rcB r = true) (hG : Good S) (t : Nat) : numB S t (upT S t + 1) = false := numB_false.2 fun q hq e1 e2 => by
  have := hG.up hv hq
  rw [e1] at this
  omega
theorem Good.perm {T : List Rc} (hG : Good S) (h : ∀ r, r ∈ S ↔ r ∈ T) : Good T := fun r hr => cnt_perm h (hG r ((h r).2 hr))
open Classical in
theorem Good.cntB (hG : Good S) {r : Rc} (hr : r ∈ S) : cntB S r = true := decide_eq_true (hG r hr)
theorem Good.wait (hG : Good S) : waitL S = [] := by
  unfold waitL
  rw [List.filter_eq_nil_iff]
  intro r hr
  rw [hG.cntB hr]
  simp
/-- A greater book in which they stay straight. -/
theorem Good.mono {T : List Rc} (hG : Good S) (hsub : ∀ r ∈ S, r ∈ T) {x : Rc} (hx : x ∈ S) (h : Straight T x.tb x.num) : Cnt T x := cnt_more hsub (hG x hx) h
theorem up_mono {T : List Rc} (hvT : ∀ r ∈ T, rcB r = true) (hG : Good T) (hsub : ∀ r ∈ S, r ∈ T) {t : Nat} (ht : t < 8) : upT S t ≤ upT T t := by
  refine up_le hvT ⟨fun s => (upT_up S).pos s, fun s hs n h1 h2 => ?_⟩ ht
  obtain ⟨r, e1, e2, hc⟩ := (upT_up S).cnt s hs n h1 h2
  exact ⟨r, e1, e2, hG r (hsub r hc.mem)⟩
/-- A record that follows all that counts. -/
structure Nxt (S : List Rc) (r : Rc) : Prop where
  v : rcB r = true
  num : r.num = upT S r.tb + 1
  seen : ∀ s, s < 8 → r.sn s = upT S s
theorem Nxt.straight {r : Rc} (hv : ∀ r ∈ S, rcB r = true) (hG : Good S) (h : Nxt S r) (t : Nat) (n : Int) : Straight (S ++ [r]) t n := by
  intro a ha b hb e1 e2 e3 _
  rcases List.mem_append.1 ha with ha1 | ha1 <;> rcases List.mem_append.1 hb with hb1 | hb1
  · exact hG.straight t a.num a ha1 b hb1 e1 e2 e3 (Int.le_refl _)
  · rw [List.mem_singleton] at hb1; subst hb1
    have := hG.up hv ha1
    have h2 := h.num
    rw [e2] at h2
    rw [e1] at this
    omega
  · rw [List.mem_singleton] at ha1; subst ha1
    have := hG.up hv hb1
    have h2 := h.num
    rw [e1] at h2
    rw [e2] at this
    omega
  · rw [List.mem_singleton] at ha1 hb1; rw [ha1, hb1]
theorem Nxt.valid {r : Rc} (hv : ∀ r ∈ S, rcB r = true) (h : Nxt S r) : ∀ q ∈ S ++ [r], rcB q = true := fun q hq => by
  rcases List.mem_append.1 hq with hq | hq
  · exact hv q hq
  · rw [List.mem_singleton] at hq; subst hq; exact h.v
theorem Nxt.good {r : Rc} (hv : ∀ r ∈ S, rcB r = true) (hG : Good S) (h : Nxt S r) : Good (S ++ [r]) := by
  have hst := h.straight hv hG
  have hold : ∀ x ∈ S, Cnt (S ++ [r]) x := fun x hx => hG.mono (fun q hq => List.mem_append.2 (.inl hq)) hx (hst _ _)
  have hu : Up (S ++ [r]) (upT S) := ⟨fun s => (upT_up S).pos s, fun s hs n h1 h2 => by
    obtain ⟨q, e1, e2, hc⟩ := (upT_up S).cnt s hs n h1 h2
    exact ⟨q, e1, e2, hold q hc.mem⟩⟩
  intro x hx
  rcases List.mem_append.1 hx with hx | hx
  · exact hold x hx
  · rw [List.mem_singleton] at hx; subst hx
    exact hu.cnt_next (by simp) (hst _ _) (fun s hs n h1 h2 _ => by rw [← h.seen s hs]; exact h2)
theorem Nxt.up {r : Rc} (hv : ∀ r ∈ S, rcB r = true) (hG : Good S) (h : Nxt S r) {t : Nat} (ht : t < 8) : upT (S ++ [r]) t ≤ upT S t + 1 := by
  rcases Int.lt_or_le 0 (upT (S ++ [r]) t) with h0 | h0
  · obtain ⟨q, e1, e2, hc⟩ := (upT_up (S ++ [r])).cnt t ht _ (by omega) (Int.le_refl _)
    rcases List.mem_append.1 hc.mem with hq | hq
    · have := hG.up hv hq
      rw [e1] at this
      omega
    · rw [List.mem_singleton] at hq; subst hq
      have := h.num
      rw [e1] at this
      omega
  · have := (upT_up S).pos t
    omega
/-- Who writes behind all had seen all. -/
theorem Nxt.bef {r : Rc} (hv : ∀ r ∈ S, rcB r = true) (hG : Good S) (h : Nxt S r) {x : Rc} (hx : x ∈ S) : befB x r = true := by
  have o := rc_ok (hv x hx)
  have h1 := hG.up hv hx
  have h2 := h.seen x.tb o.tb.1
  simp only [befB, btw, Bool.and_eq_true, decide_eq_true_eq]
  exact ⟨o.tab, by omega⟩
theorem Nxt.not {r : Rc} (hv : ∀ r ∈ S, rcB r = true) (hG : Good S) (h : Nxt S r) {x : Rc} (hx : x ∈ S) : befB r x = false := by
  have o := rc_ok h.v
  have h1 := hG.seen hv hx o.tb.1
  have h2 := h.num
  simp only [befB, Bool.and_eq_false_iff, decide_eq_false_iff_not]
  exact .inr (by omega)
theorem Nxt.chain {r : Rc} (hv : ∀ r ∈ S, rcB r = true) (hG : Good S) (hC : Chain S) (h : Nxt S r) : Chain (S ++ [r]) := by
  intro a ha b hb hne
  rcases List.mem_append.1 ha with ha1 | ha1 <;> rcases List.mem_append.1 hb with hb1 | hb1
  · exact hC a ha1 b hb1 hne
  · rw [List.mem_singleton] at hb1; subst hb1; exact .inl (h.bef hv hG ha1)
  · rw [List.mem_singleton] at ha1; subst ha1; exact .inr (h.bef hv hG hb1)
  · rw [List.mem_singleton] at ha1 hb1; exact absurd (by rw [ha1, hb1]) hne
/-- What Write makes follows all. -/
theorem newR_nxt {tab hour sign fld val : Int} (ht : btw 1 tab 8 = true) (hr : rcB (newR (upT S) tab hour sign fld val) = true) : Nxt S (newR (upT S) tab hour sign fld val) :=
  ⟨hr, rfl, fun s hs => newR_sn _ _ _ _ _ _ hs⟩
end

/-- How far a book that is only written has come from a base. -/
structure Wn (S0 S : List Rc) (k : Nat) : Prop where
  good : Good S
  chain : Chain S
  up : ∀ t, t < 8 → upT S t ≤ k
  sub : ∀ r ∈ S0, r ∈ S
  far : ∀ q ∈ S, q ∈ S0 ∨ upT S0 q.tb < q.num
  len : S.length ≤ k
theorem Wn.nil : Wn [] [] 0 := ⟨fun r hr => by simp at hr, fun r hr => by simp at hr, fun t _ => by rw [upT_nil]; exact Int.le_refl _, fun r hr => by simp at hr, fun r hr => by simp at hr, Nat.le_refl _⟩
theorem Wn.base {S0 S : List Rc} {k : Nat} (h : Wn S0 S k) : Wn S S k := ⟨h.good, h.chain, h.up, fun r hr => hr, fun q hq => .inl hq, h.len⟩
theorem Wn.next {S0 S : List Rc} {k : Nat} (h : Wn S0 S k) (hv : ∀ r ∈ S, rcB r = true) {r : Rc} (hn : Nxt S r) : Wn S0 (S ++ [r]) (k + 1) := by
  refine ⟨hn.good hv h.good, hn.chain hv h.good h.chain, fun t ht => ?_, fun q hq => List.mem_append.2 (.inl (h.sub q hq)), fun q hq => ?_, by have := h.len; simp; omega⟩
  · have h1 := hn.up hv h.good ht
    have h2 := h.up t ht
    omega
  · rcases List.mem_append.1 hq with hq | hq
    · exact h.far q hq
    · rw [List.mem_singleton] at hq; subst hq
      have o := rc_ok hn.v
      have h1 := up_mono hv h.good h.sub o.tb.1
      have h2 := hn.num
      exact .inr (by omega)
theorem Wn.keep {S0 S : List Rc} {k : Nat} (h : Wn S0 S k) : Wn S0 S (k + 1) := ⟨h.good, h.chain, fun t ht => by have := h.up t ht; omega, h.sub, h.far, by have := h.len; omega⟩
theorem Wn.write {S0 S : List Rc} {k : Nat} (h : Wn S0 S k) (hv : ∀ r ∈ S, rcB r = true) (tab hour sign fld val : Int) : Wn S0 (writeR S tab hour sign fld val).2.2 (k + 1) := by
  unfold writeR
  split
  · exact h.keep
  · rename_i h1
    split
    · exact h.keep
    · rename_i h2
      split
      · exact h.keep
      · split
        · exact h.keep
        · exact h.next hv (newR_nxt (by simpa using h1) (by simpa using h2))

/-! ### The law's write -/
def WwPost (w : World) (B m : Nat) (S0 : List Rc) (k : Nat) (e : Ending) (w' : World) : Prop := ∃ S', e = .returned (.tuple #[]) ∧ BkAt w' B m S' ∧ Wn S0 S' k ∧ w.grownBy w' (some m)
theorem nts_nums (l : List Nt) : ∀ u ∈ nts l, (∃ q n, u = .int q n) ∨ ∃ b, u = .bool b := by
  intro u hu
  obtain ⟨r, -, h⟩ := List.mem_flatMap.1 hu
  simp only [ntC, List.mem_cons, List.not_mem_nil, or_false] at h
  rcases h with rfl | rfl | rfl | rfl | rfl <;> exact .inl ⟨_, _, rfl⟩

set_option maxHeartbeats 8000000 in
set_option maxRecDepth 100000 in
theorem wwrite_calls (ns : List Nt) (An : Option Addr) (cn : Nat) {B m k0 : Nat} {S0 S : List Rc} (w : World) (hn : Rd w An (nts ns)) (ho : ∀ n ∈ ns, NtW n) (h : BkAt w B m S) (hw : Wn S0 S k0) (hl : k0 + ns.length ≤ 1000) :
    Calls Try.prog 36 #[.pointer (some ⟨B, 0, none⟩), .slice An ns.length cn] w fun e w' => WwPost w B m S0 (k0 + ns.length) e w' := by
  have HN := hid hn
  have HNO := hid ho
  have HK := hid h
  have HW := hid hw
  have HLL := hid hl
  clear hn ho h hw hl
  go_enter Try.func36, Try.ntmps36
  go_upto_region 1 with (fail)
  go_loopw [4] (fun iv wr => ∃ (k : Nat) (S : List Rc), k ≤ ns.length ∧ iv = .int .i64 k ∧ BkAt wr B m S ∧ Wn S0 S (k0 + k) ∧ Rd wr An (nts ns) ∧ w.grownBy wr (some m)) (fun iv _ => ns.length - (intOf iv).toNat)
  case atStart => exact ⟨0, S, Nat.zero_le _, rfl, unhid HK, unhid HW, unhid HN, World.grownBy.refl w _⟩
  case round =>
    clear HK HW HN S
    obtain ⟨k, S, hk, rfl, hbk, hw, hn, hg⟩ := hrel
    have HK := hid hbk
    have HW := hid hw
    have HN := hid hn
    have HG := hid hg
    clear hbk hw hn hg
    by_cases hlt : k < ns.length
    · have hki : (k : Int) < (ns.length : Int) := by omega
      obtain ⟨b, off, hAe, hbl, hc⟩ := (unhid HN) (nts_ne hlt)
      subst hAe
      obtain ⟨x, hx⟩ : ∃ x, ns[k]'hlt = x := ⟨_, rfl⟩
      have HXO := hid (unhid HNO x (hx ▸ List.getElem_mem hlt))
      have hcx := nts_cells hc hlt hx
      have HSF := hid (show ∀ w', Below wr.heap.size wr w' → (w'.cell? ⟨b, off + k * 5, none⟩ = some (.int .i64 x.tab) ∧ w'.cell? ⟨b, off + k * 5 + 1, none⟩ = some (.int .i64 x.hour) ∧ w'.cell? ⟨b, off + k * 5 + 2, none⟩ = some (.int .i64 x.sign) ∧ w'.cell? ⟨b, off + k * 5 + 3, none⟩ = some (.int .i64 x.fld) ∧ w'.cell? ⟨b, off + k * 5 + 4, none⟩ = some (.int .i64 x.val)) from fun w' hb =>
        ⟨(hb.cell hbl).trans hcx.1, (hb.cell hbl).trans hcx.2.1, (hb.cell hbl).trans hcx.2.2.1, (hb.cell hbl).trans hcx.2.2.2.1, (hb.cell hbl).trans hcx.2.2.2.2⟩)
      have HW1 := hid (show wrap64 ((k : Int) + 1) = ((k + 1 : Nat) : Int) from by have h1 := unhid HLL; unfold wrap64; omega)
      clear hc hx hcx hbl
      go_upto_region 3 with (fail)
      refine wp_region_noPanic ?_
      refine wp_region_E (S := fun w' => (w'.cell? ⟨b, off + k * 5, none⟩ = some (.int .i64 x.tab) ∧ w'.cell? ⟨b, off + k * 5 + 1, none⟩ = some (.int .i64 x.hour) ∧ w'.cell? ⟨b, off + k * 5 + 2, none⟩ = some (.int .i64 x.sign) ∧ w'.cell? ⟨b, off + k * 5 + 3, none⟩ = some (.int .i64 x.fld) ∧ w'.cell? ⟨b, off + k * 5 + 4, none⟩ = some (.int .i64 x.val))) 26 27 rfl (by kernel_rfl) (by kernel_rfl) ((unhid HSF) _ (Below.drew (Below.refl _ _))) ?_
      intro hSE
      have HBe := hid (Below.drew (Below.refl wr.heap.size wr))
      generalize wr.drew = Wd at *
      (refine WE_take (i := 0) (v := ?_) rfl (by kernel_rfl) (by decide) (by kernel_rfl) (by kernel_rfl) (fun _ _ _ h => h) (by rfl) hSE ?_ ?_; rotate_left; (focus (intro w hSw; (try dsimp only at hSw); go_simp; (try with_reducible rfl))); simp only [Act.put, List.setIfInBounds_toArray, List.set_cons_zero, List.set_cons_succ])
      (refine WE_take (i := 1) (v := ?_) rfl (by kernel_rfl) (by decide) (by kernel_rfl) (by kernel_rfl) (fun _ _ _ h => h) (by rfl) hSE ?_ ?_; rotate_left; (focus (intro w hSw; (try dsimp only at hSw); go_simp; (try with_reducible rfl))); simp only [Act.put, List.setIfInBounds_toArray, List.set_cons_zero, List.set_cons_succ])
      (refine WE_take (i := 2) (v := ?_) rfl (by kernel_rfl) (by decide) (by kernel_rfl) (by kernel_rfl) (fun _ _ _ h => h) (by rfl) hSE ?_ ?_; rotate_left; (focus (intro w hSw; (try dsimp only at hSw); go_simp; (try with_reducible rfl))); simp only [Act.put, List.setIfInBounds_toArray, List.set_cons_zero, List.set_cons_succ])
      (refine WE_take (i := 3) (v := ?_) rfl (by kernel_rfl) (by decide) (by kernel_rfl) (by kernel_rfl) (fun _ _ _ h => h) (by rfl) hSE ?_ ?_; rotate_left; (focus (intro w hSw; (try dsimp only at hSw); go_simp; (try with_reducible rfl))); simp only [Act.put, List.setIfInBounds_toArray, List.set_cons_zero, List.set_cons_succ])
      (refine WE_take (i := 4) (v := ?_) rfl (by kernel_rfl) (by decide) (by kernel_rfl) (by kernel_rfl) (fun _ _ _ h => h) (by rfl) hSE ?_ ?_; rotate_left; (focus (intro w hSw; (try dsimp only at hSw); go_simp; (try with_reducible rfl))); simp only [Act.put, List.setIfInBounds_toArray, List.set_cons_zero, List.set_cons_succ])
      (refine WE_take (i := 5) (v := ?_) rfl (by kernel_rfl) (by decide) (by kernel_rfl) (by kernel_rfl) (fun _ _ _ h => h) (by rfl) hSE ?_ ?_; rotate_left; (focus (intro w hSw; (try dsimp only at hSw); go_simp; (try with_reducible rfl))); simp only [Act.put, List.setIfInBounds_toArray, List.set_cons_zero, List.set_cons_succ])
      (refine WE_take (i := 6) (v := ?_) rfl (by kernel_rfl) (by decide) (by kernel_rfl) (by kernel_rfl) (fun _ _ _ h => h) (by rfl) hSE ?_ ?_; rotate_left; (focus (intro w hSw; (try dsimp only at hSw); go_simp; (try with_reducible rfl))); simp only [Act.put, List.setIfInBounds_toArray, List.set_cons_zero, List.set_cons_succ])
      (refine WE_take (i := 7) (v := ?_) rfl (by kernel_rfl) (by decide) (by kernel_rfl) (by kernel_rfl) (fun _ _ _ h => h) (by rfl) hSE ?_ ?_; rotate_left; (focus (intro w hSw; (try dsimp only at hSw); go_simp; (try with_reducible rfl))); simp only [Act.put, List.setIfInBounds_toArray, List.set_cons_zero, List.set_cons_succ])
      (refine WE_take (i := 8) (v := ?_) rfl (by kernel_rfl) (by decide) (by kernel_rfl) (by kernel_rfl) (fun _ _ _ h => h) (by rfl) hSE ?_ ?_; rotate_left; (focus (intro w hSw; (try dsimp only at hSw); go_simp; (try with_reducible rfl))); simp only [Act.put, List.setIfInBounds_toArray, List.set_cons_zero, List.set_cons_succ])
      (refine WE_take (i := 9) (v := ?_) rfl (by kernel_rfl) (by decide) (by kernel_rfl) (by kernel_rfl) (fun _ _ _ h => h) (by rfl) hSE ?_ ?_; rotate_left; (focus (intro w hSw; (try dsimp only at hSw); go_simp; (try with_reducible rfl))); simp only [Act.put, List.setIfInBounds_toArray, List.set_cons_zero, List.set_cons_succ])
      (refine WE_take (i := 10) (v := ?_) rfl (by kernel_rfl) (by decide) (by kernel_rfl) (by kernel_rfl) (fun _ _ _ h => h) (by rfl) hSE ?_ ?_; rotate_left; (focus (intro w hSw; (try dsimp only at hSw); go_simp; (try with_reducible rfl))); simp only [Act.put, List.setIfInBounds_toArray, List.set_cons_zero, List.set_cons_succ])
      (refine WE_take (i := 11) (v := ?_) rfl (by kernel_rfl) (by decide) (by kernel_rfl) (by kernel_rfl) (fun _ _ _ h => h) (by rfl) hSE ?_ ?_; rotate_left; (focus (intro w hSw; (try dsimp only at hSw); go_simp; (try with_reducible rfl))); simp only [Act.put, List.setIfInBounds_toArray, List.set_cons_zero, List.set_cons_succ])
      (refine WE_take (i := 12) (v := ?_) rfl (by kernel_rfl) (by decide) (by kernel_rfl) (by kernel_rfl) (fun _ _ _ h => h) (by rfl) hSE ?_ ?_; rotate_left; (focus (intro w hSw; (try dsimp only at hSw); go_simp; (try with_reducible rfl))); simp only [Act.put, List.setIfInBounds_toArray, List.set_cons_zero, List.set_cons_succ])
      (refine WE_take (i := 13) (v := ?_) rfl (by kernel_rfl) (by decide) (by kernel_rfl) (by kernel_rfl) (fun _ _ _ h => h) (by rfl) hSE ?_ ?_; rotate_left; (focus (intro w hSw; (try dsimp only at hSw); go_simp; (try with_reducible rfl))); simp only [Act.put, List.setIfInBounds_toArray, List.set_cons_zero, List.set_cons_succ])
      (refine WE_take (i := 14) (v := ?_) rfl (by kernel_rfl) (by decide) (by kernel_rfl) (by kernel_rfl) (fun _ _ _ h => h) (by rfl) hSE ?_ ?_; rotate_left; (focus (intro w hSw; (try dsimp only at hSw); go_simp; (try with_reducible rfl))); simp only [Act.put, List.setIfInBounds_toArray, List.set_cons_zero, List.set_cons_succ])
      (refine WE_take (i := 15) (v := ?_) rfl (by kernel_rfl) (by decide) (by kernel_rfl) (by kernel_rfl) (fun _ _ _ h => h) (by rfl) hSE ?_ ?_; rotate_left; (focus (intro w hSw; (try dsimp only at hSw); go_simp; (try with_reducible rfl))); simp only [Act.put, List.setIfInBounds_toArray, List.set_cons_zero, List.set_cons_succ])
      (refine WE_take (i := 16) (v := ?_) rfl (by kernel_rfl) (by decide) (by kernel_rfl) (by kernel_rfl) (fun _ _ _ h => h) (by rfl) hSE ?_ ?_; rotate_left; (focus (intro w hSw; (try dsimp only at hSw); go_simp; (try with_reducible rfl))); simp only [Act.put, List.setIfInBounds_toArray, List.set_cons_zero, List.set_cons_succ])
      (refine WE_take (i := 17) (v := ?_) rfl (by kernel_rfl) (by decide) (by kernel_rfl) (by kernel_rfl) (fun _ _ _ h => h) (by rfl) hSE ?_ ?_; rotate_left; (focus (intro w hSw; (try dsimp only at hSw); go_simp; (try with_reducible rfl))); simp only [Act.put, List.setIfInBounds_toArray, List.set_cons_zero, List.set_cons_succ])
      (refine WE_take (i := 18) (v := ?_) rfl (by kernel_rfl) (by decide) (by kernel_rfl) (by kernel_rfl) (fun _ _ _ h => h) (by rfl) hSE ?_ ?_; rotate_left; (focus (intro w hSw; (try dsimp only at hSw); go_simp; (try with_reducible rfl))); simp only [Act.put, List.setIfInBounds_toArray, List.set_cons_zero, List.set_cons_succ])
      (refine WE_take (i := 19) (v := ?_) rfl (by kernel_rfl) (by decide) (by kernel_rfl) (by kernel_rfl) (fun _ _ _ h => h) (by rfl) hSE ?_ ?_; rotate_left; (focus (intro w hSw; (try dsimp only at hSw); go_simp; (try with_reducible rfl))); simp only [Act.put, List.setIfInBounds_toArray, List.set_cons_zero, List.set_cons_succ])
      (refine WE_take (i := 20) (v := ?_) rfl (by kernel_rfl) (by decide) (by kernel_rfl) (by kernel_rfl) (fun _ _ _ h => h) (by rfl) hSE ?_ ?_; rotate_left; (focus (intro w hSw; (try dsimp only at hSw); go_simp; (try with_reducible rfl))); simp only [Act.put, List.setIfInBounds_toArray, List.set_cons_zero, List.set_cons_succ])
      (refine WE_take (i := 21) (v := ?_) rfl (by kernel_rfl) (by decide) (by kernel_rfl) (by kernel_rfl) (fun _ _ _ h => h) (by rfl) hSE ?_ ?_; rotate_left; (focus (intro w hSw; (try dsimp only at hSw); go_simp; (try with_reducible rfl))); simp only [Act.put, List.setIfInBounds_toArray, List.set_cons_zero, List.set_cons_succ])
      (refine WE_take (i := 22) (v := ?_) rfl (by kernel_rfl) (by decide) (by kernel_rfl) (by kernel_rfl) (fun _ _ _ h => h) (by rfl) hSE ?_ ?_; rotate_left; (focus (intro w hSw; (try dsimp only at hSw); go_simp; (try with_reducible rfl))); simp only [Act.put, List.setIfInBounds_toArray, List.set_cons_zero, List.set_cons_succ])
      (refine WE_take (i := 23) (v := ?_) rfl (by kernel_rfl) (by decide) (by kernel_rfl) (by kernel_rfl) (fun _ _ _ h => h) (by rfl) hSE ?_ ?_; rotate_left; (focus (intro w hSw; (try dsimp only at hSw); go_simp; (try with_reducible rfl))); simp only [Act.put, List.setIfInBounds_toArray, List.set_cons_zero, List.set_cons_succ])
      (refine WE_take (i := 24) (v := ?_) rfl (by kernel_rfl) (by decide) (by kernel_rfl) (by kernel_rfl) (fun _ _ _ h => h) (by rfl) hSE ?_ ?_; rotate_left; (focus (intro w hSw; (try dsimp only at hSw); go_simp; (try with_reducible rfl))); simp only [Act.put, List.setIfInBounds_toArray, List.set_cons_zero, List.set_cons_succ])
      (refine WE_take (i := 25) (v := ?_) rfl (by kernel_rfl) (by decide) (by kernel_rfl) (by kernel_rfl) (fun _ _ _ h => h) (by rfl) hSE ?_ ?_; rotate_left; (focus (intro w hSw; (try dsimp only at hSw); go_simp; (try with_reducible rfl))); simp only [Act.put, List.setIfInBounds_toArray, List.set_cons_zero, List.set_cons_succ])
      refine WE_last rfl (by kernel_rfl) (by kernel_rfl) (by kernel_rfl) ?_
      intro K hK
      go_simp
      go_at_call 15
      have HKd := hid ((unhid HK).below' (unhid HBe))
      refine (write_calls x.tab x.hour x.sign x.fld x.val Wd (unhid HKd) (by have := (unhid HW).len; have := unhid HLL; omega) (unhid HXO).1).mono ?_
      rintro e w5 ⟨rfl, hk5, hg5⟩
      have HG := hid ((unhid HG).andThen (grown_then (unhid HBe) hg5) (fun j hj => .inr hj))
      have HN := hid (rd_noNum ((unhid HN).below (unhid HBe)) (nts_nums ns) (unhid HKd).noNum hg5)
      have HW := hid ((unhid HW).write (unhid HK).v x.tab x.hour x.sign x.fld x.val)
      have HK := hid hk5
      refine hK.out _ _ (NoPanic.normal ?_)
      clear hK K hSE HSF hk5 hg5
      go_wp2_with fail
      go_roundw
      case rel => exact ⟨k + 1, _, by omega, by first | go_num | rw [unhid HW1], unhid HK, by rw [show k0 + (k + 1) = k0 + k + 1 from rfl]; exact unhid HW, unhid HN, unhid HG⟩
      case measure => first | (simp [intOf]; omega) | (rw [unhid HW1]; simp [intOf]; omega)
    · obtain rfl : k = ns.length := by omega
      have HP := hid (show WwPost w B m S0 (k0 + ns.length) (.returned (.tuple #[])) wr from ⟨S, rfl, unhid HK, unhid HW, unhid HG⟩)
      go_wp2_with fail
      go_end0
      exact unhid HP

end Go.Proofs.Ytegghimjmbgghaa
