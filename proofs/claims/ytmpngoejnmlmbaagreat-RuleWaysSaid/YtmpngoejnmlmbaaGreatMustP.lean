/-
  What must hold: painting the edicts in the order of their numbers, and the reference's search for the greatest one, agree. Plain.
-/
import Derived.Test.YtmpngoejnmlmbaaGreatEdictr
set_option linter.unusedSimpArgs false
set_option linter.unusedVariables false
namespace Go.Proofs.YtmpngoejnmlmbaaGreat
open Go.RowKit

def edHit (hour dir topic m : Int) (e : Ed) : Bool := decide (e.topic = topic) && decide (e.dir = dir) && decide (e.st ≤ hour) && decide (hour < e.en) && decide (e.fr ≤ m) && decide (m < e.to)
def edOn (hour dir topic : Int) (e : Ed) : Bool := decide (e.topic = topic) && decide (e.dir = dir) && decide (e.st ≤ hour) && decide (hour < e.en)
/-- What painting leaves on a metre. -/
def paintAt (hour dir topic m : Int) (L : List Ed) : Int := L.foldl (fun v e => if edHit hour dir topic m e = true then e.val else v) 0
theorem paintAt_snoc (hour dir topic m : Int) (L : List Ed) {k : Nat} (hk : k < L.length) :
    paintAt hour dir topic m (L.take (k + 1)) = if edHit hour dir topic m L[k] = true then L[k].val else paintAt hour dir topic m (L.take k) := by
  unfold paintAt; rw [List.take_succ_eq_append_getElem hk, List.foldl_append]; rfl
/-- The reference's search. -/
def mustStep (hour dir topic m : Int) (st : Int × Int) (e : Ed) : Int × Int := if edHit hour dir topic m e = true ∧ st.1 < e.num then (e.num, e.val) else st
def mustRun (hour dir topic m : Int) (L : List Ed) : Int × Int := L.foldl (mustStep hour dir topic m) (0, 0)
def mustP (ed : List Ed) (hour dir topic m : Int) : Int := (mustRun hour dir topic m ed).2
theorem mustRun_snoc (hour dir topic m : Int) (L : List Ed) {k : Nat} (hk : k < L.length) : mustRun hour dir topic m (L.take (k + 1)) = mustStep hour dir topic m (mustRun hour dir topic m (L.take k)) L[k] := by
  unfold mustRun; rw [List.take_succ_eq_append_getElem hk, List.foldl_append]; rfl

theorem paint_max {hour dir topic m : Int} {L : List Ed} (hs : L.Pairwise (fun a b => a.num ≤ b.num)) : ∀ v0 : Int,
    ((∀ e ∈ L, edHit hour dir topic m e = false) ∧ L.foldl (fun v e => if edHit hour dir topic m e = true then e.val else v) v0 = v0) ∨
    ∃ e ∈ L, edHit hour dir topic m e = true ∧ L.foldl (fun v e => if edHit hour dir topic m e = true then e.val else v) v0 = e.val ∧ ∀ e' ∈ L, edHit hour dir topic m e' = true → e'.num ≤ e.num := by
  induction L with
  | nil => intro v0; exact .inl ⟨by simp, rfl⟩
  | cons x L ih =>
    intro v0
    rw [List.pairwise_cons] at hs
    have h := ih hs.2 (if edHit hour dir topic m x = true then x.val else v0)
    simp only [List.foldl_cons]
    rcases h with ⟨h1, h2⟩ | ⟨e, he, h1, h2, h3⟩
    · by_cases hx : edHit hour dir topic m x = true
      · rw [if_pos hx] at h2 ⊢
        refine .inr ⟨x, by simp, hx, h2, fun e' he' hh => ?_⟩
        rcases List.mem_cons.1 he' with rfl | he'
        · exact Int.le_refl _
        · rw [h1 e' he'] at hh; cases hh
      · rw [if_neg hx] at h2 ⊢
        refine .inl ⟨fun e' he' => ?_, h2⟩
        rcases List.mem_cons.1 he' with rfl | he'
        · exact Bool.not_eq_true _ ▸ hx
        · exact h1 e' he'
    · refine .inr ⟨e, by simp [he], h1, h2, fun e' he' hh => ?_⟩
      rcases List.mem_cons.1 he' with rfl | he'
      · exact hs.1 e he
      · exact h3 e' he' hh
theorem must_max {hour dir topic m : Int} {L : List Ed} : ∀ st : Int × Int,
    st.1 ≤ (L.foldl (mustStep hour dir topic m) st).1 ∧ (∀ e ∈ L, edHit hour dir topic m e = true → e.num ≤ (L.foldl (mustStep hour dir topic m) st).1) ∧
    (L.foldl (mustStep hour dir topic m) st = st ∨ ∃ e ∈ L, edHit hour dir topic m e = true ∧ L.foldl (mustStep hour dir topic m) st = (e.num, e.val)) := by
  induction L with
  | nil => intro st; simp
  | cons x L ih =>
    intro st
    simp only [List.foldl_cons]
    obtain ⟨h1, h2, h3⟩ := ih (mustStep hour dir topic m st x)
    have hst : st.1 ≤ (mustStep hour dir topic m st x).1 := by unfold mustStep; split <;> simp <;> omega
    have hx : edHit hour dir topic m x = true → x.num ≤ (mustStep hour dir topic m st x).1 := fun hh => by
      unfold mustStep
      split
      · exact Int.le_refl _
      · rename_i hn
        have : ¬ st.1 < x.num := fun h => hn ⟨hh, h⟩
        omega
    refine ⟨by omega, fun e he hh => ?_, ?_⟩
    · rcases List.mem_cons.1 he with rfl | he
      · have := hx hh; omega
      · exact h2 e he hh
    · rcases h3 with h3 | ⟨e, he, hh, h3⟩
      · rw [h3]
        unfold mustStep
        split
        · rename_i hc; exact .inr ⟨x, by simp, hc.1, rfl⟩
        · exact .inl rfl
      · exact .inr ⟨e, by simp [he], hh, h3⟩
theorem map_inj_ed {f : Ed → Int} {l : List Ed} (h : (l.map f).Nodup) {a b : Ed} (ha : a ∈ l) (hb : b ∈ l) (e : f a = f b) : a = b := by
  induction l with
  | nil => cases ha
  | cons x l ih =>
    rw [List.map_cons, List.nodup_cons] at h
    rcases List.mem_cons.1 ha with h1 | h1
    · rcases List.mem_cons.1 hb with h2 | h2
      · rw [h1, h2]
      · rw [h1] at e; exact absurd (e ▸ List.mem_map_of_mem h2) h.1
    · rcases List.mem_cons.1 hb with h2 | h2
      · rw [h2] at e; exact absurd (e ▸ List.mem_map_of_mem h1) h.1
      · exact ih h.2 h1 h2
theorem paint_must {hour dir topic m : Int} {L ed : List Ed} (hp : L.Perm ed) (hs : L.Pairwise (fun a b => a.num ≤ b.num)) (hn : (ed.map Ed.num).Nodup) (h1 : ∀ e ∈ ed, 1 ≤ e.num) :
    paintAt hour dir topic m L = mustP ed hour dir topic m := by
  have ha := paint_max (hour := hour) (dir := dir) (topic := topic) (m := m) hs 0
  obtain ⟨-, b2, b3⟩ := must_max (hour := hour) (dir := dir) (topic := topic) (m := m) (L := ed) (0, 0)
  unfold paintAt mustP mustRun
  rcases ha with ⟨a1, a2⟩ | ⟨e, he, a1, a2, a3⟩
  · rw [a2]
    rcases b3 with b3 | ⟨e, he, hh, b3⟩
    · rw [b3]
    · rw [a1 e (hp.symm.subset he)] at hh; cases hh
  · rw [a2]
    have he' := hp.subset he
    have hb := b2 e he' a1
    have hpos := h1 e he'
    rcases b3 with b3 | ⟨e2, he2, hh, b3⟩
    · rw [b3] at hb; dsimp only at hb; omega
    · rw [b3] at hb ⊢
      dsimp only at hb ⊢
      have h5 := a3 e2 (hp.symm.subset he2) hh
      rw [map_inj_ed hn he' he2 (by omega)]

theorem edsB_len {len : Int} {js : List Int} {l : List Ed} (h : edsB len js l = true) : l.length ≤ 50 := by
  simp [edsB] at h; omega
theorem edsB_nodup {len : Int} {js : List Int} {l : List Ed} (h : edsB len js l = true) : (l.map Ed.num).Nodup := by
  simp [edsB] at h; exact h.2
theorem edsB_ok {len : Int} {js : List Int} {l : List Ed} (h : edsB len js l = true) : ∀ e ∈ l, edOk len e = true := by
  simp [edsB] at h; exact h.1.2
theorem edsB_bounds {len : Int} {js : List Int} {l : List Ed} (h : edsB len js l = true) : ∀ e ∈ l, (1 ≤ e.num ∧ e.num ≤ 1000000000) ∧ 0 ≤ e.fr ∧ e.fr < e.to ∧ e.to ≤ len := fun e he => by
  have := edOk_iff.1 (edsB_ok h e he); exact ⟨this.1, this.2.2.1, this.2.2.2.1, this.2.2.2.2.1⟩

end Go.Proofs.YtmpngoejnmlmbaaGreat
