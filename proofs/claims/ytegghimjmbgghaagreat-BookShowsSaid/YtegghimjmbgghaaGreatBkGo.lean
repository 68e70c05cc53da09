/-
  Books that are only written: every record counts. The law's write.
-/
import Derived.Test.YtegghimjmbgghaaGreatBkX
import Derived.Test.YtegghimjmbgghaaGreatBkRg
import Derived.Test.YtegghimjmbgghaaGreatBkNt
set_option linter.unusedSimpArgs false
set_option linter.unusedVariables false
namespace Go.Proofs.YtegghimjmbgghaaGreat
open Go.RowKit Go.Shelf

/-! ### Plain -/
/-- What counts keeps counting in a greater book in which its tablet is straight up to it. -/
theorem cnt_more {S T : List Rc} (hsub : ∀ r ∈ S, r ∈ T) {x : Rc} (h : Cnt S x) : Straight T x.tb x.num → Cnt T x := by
  induction h with
  | mk x hx hst ha hc ih =>
    intro hT
    have hdown : ∀ t n, Straight T t n → Straight S t n := fun t n h a ha b hb => h a (hsub a ha) b (hsub b hb)
    refine .mk x (hsub x hx) hT (fun s h1 n h2 h3 h4 => ?_) (fun q hq h1 h2 h3 h4 => ?_)
    · obtain ⟨q, hq, e⟩ := ha s h1 n h2 h3 (hdown _ _ h4)
      exact ⟨q, hsub q hq, e⟩
    · obtain ⟨q0, hq0, e1, e2⟩ := ha q.tb h1 q.num h2 h3 (hdown _ _ h4)
      have e : q = q0 := h4 q hq q0 (hsub q0 hq0) rfl e1 e2.symm (Int.le_refl _)
      subst e
      exact ih q hq0 h1 h2 h3 (hdown _ _ h4) h4
/-- Every record counts. -/
def Good (S : List Rc) : Prop := ∀ r ∈ S, Cnt S r
/-- Of two records one had seen the other one. -/
def Chain (S : List Rc) : Prop := ∀ r ∈ S, ∀ q ∈ S, r ≠ q → befB r q = true ∨ befB q r = true
section
variable {S : List Rc}
theorem Good.straight (hG : Good S) (t : Nat) (n : Int) : Straight S t n := fun r hr q hq e1 e2 e3 _ => (hG r hr).straight r hr q hq rfl (by rw [e2, e1]) e3 (Int.le_refl _)
theorem Good.up (hv : ∀ r ∈ S, rcB r = true) (hG : Good S) {r : Rc} (hr : r ∈ S) : r.num ≤ upT S r.tb := cnt_le hv (upT_up S) (upT_shut hv) (hG r hr)
theorem Good.seen (hv : ∀ r ∈ S, rcB r = true) (hG : Good S) {r : Rc} (hr : r ∈ S) {s : Nat} (hs : s < 8) : r.sn s ≤ upT S s := by
  rcases Int.lt_or_le 0 (r.sn s) with h | h
  · have hc := hG r hr
    cases hc with
    | mk _ _ _ ha _ =>
      obtain ⟨q, hq, e1, e2⟩ := ha s hs (r.sn s) (by omega) (Int.le_refl _) (hG.straight _ _)
      have := hG.up hv hq
      rw [e1, e2] at this
      exact this
  · have := (upT_up S).pos s
    omega
theorem Good.frk (hv : ∀ r ∈ S, rcB r = true) (hG : Good S) (t : Nat) : ¬ frk S t ≤ 1000000 := fun h => by
  obtain ⟨r, hr, q, hq, e1, e2, e3, e4, hne⟩ := (frk_is hv t).is h
  exact hne (hG.straight t r.num r hr q hq e1 e2 (by rw [e3, e4]) (Int.le_refl _))
theorem Good.num (hv : ∀ r ∈ S, rcB r = true) (hG : Good S) (t : Nat) : numB S t (upT S t + 1) = false := numB_false.2 fun q hq e1 e2 => by
  have := hG.up hv hq
  rw [e1] at this
  omega
theorem Good.perm {T : List Rc} (hG : Good S) (h : ∀ r, r ∈ S ↔ r ∈ T) : Good T := fun r hr => cnt_perm h (hG r ((h r).2 hr))
open Classical in
theorem Good.cntB (hG : Good S) {r : Rc} (hr : r ∈ S) : cntB S r = true := decide_eq_true (hG r hr)
theorem Good.wait (hG : Good S) : waitL S = [] := by
  unfold waitL
  rw [List.filter_eq_nil_iff]
  intro r hr
  rw [hG.cntB hr]
  simp
/-- A greater book in which they stay straight. -/
theorem Good.mono {T : List Rc} (hG : Good S) (hsub : ∀ r ∈ S, r ∈ T) {x : Rc} (hx : x ∈ S) (h : Straight T x.tb x.num) : Cnt T x := cnt_more hsub (hG x hx) h
theorem up_mono {T : List Rc} (hvT : ∀ r ∈ T, rcB r = true) (hG : Good T) (hsub : ∀ r ∈ S, r ∈ T) {t : Nat} (ht : t < 8) : upT S t ≤ upT T t := by
  refine up_le hvT ⟨fun s => (upT_up S).pos s, fun s hs n h1 h2 => ?_⟩ ht
  obtain ⟨r, e1, e2, hc⟩ := (upT_up S).cnt s hs n h1 h2
  exact ⟨r, e1, e2, hG r (hsub r hc.mem)⟩
/-- A record that follows all that counts. -/
structure Nxt (S : List Rc) (r : Rc) : Prop where
  v : rcB r = true
  num : r.num = upT S r.tb + 1
  seen : ∀ s, s < 8 → r.sn s = upT S s
theorem Nxt.straight {r : Rc} (hv : ∀ r ∈ S, rcB r = true) (hG : Good S) (h : Nxt S r) (t : Nat) (n : Int) : Straight (S ++ [r]) t n := by
  intro a ha b hb e1 e2 e3 _
  rcases List.mem_append.1 ha with ha1 | ha1 <;> rcases List.mem_append.1 hb with hb1 | hb1
  · exact hG.straight t a.num a ha1 b hb1 e1 e2 e3 (Int.le_refl _)
  · rw [List.mem_singleton] at hb1; subst hb1
    have := hG.up hv ha1
    have h2 := h.num
    rw [e2] at h2
    rw [e1] at this
    omega
  · rw [List.mem_singleton] at ha1; subst ha1
    have := hG.up hv hb1
    have h2 := h.num
    rw [e1] at h2
    rw [e2] at this
    omega
  · rw [List.mem_singleton] at ha1 hb1; rw [ha1, hb1]
theorem Nxt.valid {r : Rc} (hv : ∀ r ∈ S, rcB r = true) (h : Nxt S r) : ∀ q ∈ S ++ [r], rcB q = true := fun q hq => by
  rcases List.mem_append.1 hq with hq | hq
  · exact hv q hq
  · rw [List.mem_singleton] at hq; subst hq; exact h.v
theorem Nxt.good {r : Rc} (hv : ∀ r ∈ S, rcB r = true) (hG : Good S) (h : Nxt S r) : Good (S ++ [r]) := by
  have hst := h.straight hv hG
  have hold : ∀ x ∈ S, Cnt (S ++ [r]) x := fun x hx => hG.mono (fun q hq => List.mem_append.2 (.inl hq)) hx (hst _ _)
  have hu : Up (S ++ [r]) (upT S) := ⟨fun s => (upT_up S).pos s, fun s hs n h1 h2 => by
    obtain ⟨q, e1, e2, hc⟩ := (upT_up S).cnt s hs n h1 h2
    exact ⟨q, e1, e2, hold q hc.mem⟩⟩
  intro x hx
  rcases List.mem_append.1 hx with hx | hx
  · exact hold x hx
  · rw [List.mem_singleton] at hx; subst hx
    exact hu.cnt_next (by simp) (hst _ _) (fun s hs n h1 h2 _ => by rw [← h.seen s hs]; exact h2)
theorem Nxt.up {r : Rc} (hv : ∀ r ∈ S, rcB r = true) (hG : Good S) (h : Nxt S r) {t : Nat} (ht : t < 8) : upT (S ++ [r]) t ≤ upT S t + 1 := by
  rcases Int.lt_or_le 0 (upT (S ++ [r]) t) with h0 | h0
  · obtain ⟨q, e1, e2, hc⟩ := (upT_up (S ++ [r])).cnt t ht _ (by omega) (Int.le_refl _)
    rcases List.mem_append.1 hc.mem with hq | hq
    · have := hG.up hv hq
      rw [e1] at this
      omega
    · rw [List.mem_singleton] at hq; subst hq
      have := h.num
      rw [e1] at this
      omega
  · have := (upT_up S).pos t
    omega
/-- Who writes behind all had seen all. -/
theorem Nxt.bef {r : Rc} (hv : ∀ r ∈ S, rcB r = true) (hG : Good S) (h : Nxt S r) {x : Rc} (hx : x ∈ S) : befB x r = true := by
  have o := rc_ok (hv x hx)
  have h1 := hG.up hv hx
  have h2 := h.seen x.tb o.tb.1
  simp only [befB, btw, Bool.and_eq_true, decide_eq_true_eq]
  exact ⟨o.tab, by omega⟩
theorem Nxt.not {r : Rc} (hv : ∀ r ∈ S, rcB r = true) (hG : Good S) (h : Nxt S r) {x : Rc} (hx : x ∈ S) : befB r x = false := by
  have o := rc_ok h.v
  have h1 := hG.seen hv hx o.tb.1
  have h2 := h.num
  simp only [befB, Bool.and_eq_false_iff, decide_eq_false_iff_not]
  exact .inr (by omega)
theorem Nxt.chain {r : Rc} (hv : ∀ r ∈ S, rcB r = true) (hG : Good S) (hC : Chain S) (h : Nxt S r) : Chain (S ++ [r]) := by
  intro a ha b hb hne
  rcases List.mem_append.1 ha with ha1 | ha1 <;> rcases List.mem_append.1 hb with hb1 | hb1
  · exact hC a ha1 b hb1 hne
  · rw [List.mem_singleton] at hb1; subst hb1; exact .inl (h.bef hv hG ha1)
  · rw [List.mem_singleton] at ha1; subst ha1; exact .inr (h.bef hv hG hb1)
  · rw [List.mem_singleton] at ha1 hb1; exact absurd (by rw [ha1, hb1]) hne
/-- What Write makes follows all. -/
theorem newR_nxt {tab hour sign fld val : Int} (ht : btw 1 tab 8 = true) (hr : rcB (newR (upT S) tab hour sign fld val) = true) : Nxt S (newR (upT S) tab hour sign fld val) :=
  ⟨hr, rfl, fun s hs => newR_sn _ _ _ _ _ _ hs⟩
end

/-- How far a book that is only written has come from a base. -/
structure Wn (S0 S : List Rc) (k : Nat) : Prop where
  good : Good S
  chain : Chain S
  up : ∀ t, t < 8 → upT S t ≤ k
  sub : ∀ r ∈ S0, r ∈ S
  far : ∀ q ∈ S, q ∈ S0 ∨ upT S0 q.tb < q.num
  len : S.length ≤ k
theorem Wn.nil : Wn [] [] 0 := ⟨fun r hr => by simp at hr, fun r hr => by simp at hr, fun t _ => by rw [upT_nil]; exact Int.le_refl _, fun r hr => by simp at hr, fun r hr => by simp at hr, Nat.le_refl _⟩
theorem Wn.base {S0 S : List Rc} {k : Nat} (h : Wn S0 S k) : Wn S S k := ⟨h.good, h.chain, h.up, fun r hr => hr, fun q hq => .inl hq, h.len⟩
theorem Wn.next {S0 S : List Rc} {k : Nat} (h : Wn S0 S k) (hv : ∀ r ∈ S, rcB r = true) {r : Rc} (hn : Nxt S r) : Wn S0 (S ++ [r]) (k + 1) := by
  refine ⟨hn.good hv h.good, hn.chain hv h.good h.chain, fun t ht => ?_, fun q hq => List.mem_append.2 (.inl (h.sub q hq)), fun q hq => ?_, by have := h.len; simp; omega⟩
  · have h1 := hn.up hv h.good ht
    have h2 := h.up t ht
    omega
  · rcases List.mem_append.1 hq with hq | hq
    · exact h.far q hq
    · rw [List.mem_singleton] at hq; subst hq
      have o := rc_ok hn.v
      have h1 := up_mono hv h.good h.sub o.tb.1
      have h2 := hn.num
      exact .inr (by omega)
theorem Wn.keep {S0 S : List Rc} {k : Nat} (h : Wn S0 S k) : Wn S0 S (k + 1) := ⟨h.good, h.chain, fun t ht => by have := h.up t ht; omega, h.sub, h.far, by have := h.len; omega⟩
theorem Wn.write {S0 S : List Rc} {k : Nat} (h : Wn S0 S k) (hv : ∀ r ∈ S, rcB r = true) (tab hour sign fld val : Int) : Wn S0 (writeR S tab hour sign fld val).2.2 (k + 1) := by
  unfold writeR
  split
  · exact h.keep
  · rename_i h1
    split
    · exact h.keep
    · rename_i h2
      split
      · exact h.keep
      · split
        · exact h.keep
        · exact h.next hv (newR_nxt (by simpa using h1) (by simpa using h2))

/-! ### The law's write -/
def WwPost (w : World) (B m : Nat) (S0 : List Rc) (k : Nat) (e : Ending) (w' : World) : Prop := ∃ S', e = .returned (.tuple #[]) ∧ BkAt w' B m S' ∧ Wn S0 S' k ∧ w.grownBy w' (some m)
theorem nts_nums (l : List Nt) : ∀ u ∈ nts l, (∃ q n, u = .int q n) ∨ ∃ b, u = .bool b := by
  intro u hu
  obtain ⟨r, -, h⟩ := List.mem_flatMap.1 hu
  simp only [ntC, List.mem_cons, List.not_mem_nil, or_false] at h
  rcases h with rfl | rfl | rfl | rfl | rfl <;> exact .inl ⟨_, _, rfl⟩

end Go.Proofs.YtegghimjmbgghaaGreat
