/-
  Which signs play a part for what holds. Plain: no walk.
-/
import Derived.Test.YtmpngoejnmlmbaaGreatRowsP
import Derived.Test.YtmpngoejnmlmbaaGreatHoldP
import Derived.Test.YtmpngoejnmlmbaaGreatHeld2
set_option linter.unusedSimpArgs false
set_option linter.unusedVariables false
namespace Go.Proofs.YtmpngoejnmlmbaaGreat
open Go.RowKit

theorem row_unique {len hour dir : Int} {l l' : List Sg} {R R2 : List Mt} (h : IsRow len hour dir l R) (h2 : IsRow len hour dir l' R2) (hp : (selP len hour dir l).Perm (selP len hour dir l')) (hn : (l.map Sg.num).Nodup) : R = R2 := by
  have hnd : ((selP len hour dir l).map (fun m => m.s.num)).Nodup := by
    simp only [selP, List.map_map]
    exact hn.sublist ((List.filter_sublist).map _)
  have hp2 := (h2.perm.trans hp.symm)
  refine List.Perm.eq_of_pairwise (le := fun a b => ¬ mtLt b a) (fun a b ha hb h3 h4 => ?_) h.sorted h2.sorted (h.perm.trans hp2.symm)
  refine map_inj_of hnd (h.perm.subset ha) (hp2.subset hb) ?_
  unfold mtLt at h3 h4; omega

theorem selP_speaking (len hour dir : Int) (l : List Sg) : selP len hour dir (l.filter fun s => spkB s hour) = selP len hour dir l := by
  unfold selP
  rw [List.filter_filter]
  congr 1
  apply List.filter_congr
  intro s _
  cases spkB s hour <;> simp

theorem filter_set {p : Sg → Bool} {s' : Sg} (hs : p s' = false) (l : List Sg) (k : Nat) (hk : k < l.length) : (l.set k s').filter p = (l.eraseIdx k).filter p := by
  induction l generalizing k with
  | nil => simp at hk
  | cons x l ih =>
    cases k with
    | zero => simp [hs]
    | succ k => simp only [List.set_cons_succ, List.eraseIdx_cons_succ, List.filter_cons, ih k (by simpa using hk)]
theorem spk_covered {s : Sg} {hour : Int} {A : Option Addr} {c : Nat} : spkB { s with cA := A, cc := c, cov := [(s.up, s.down)] } hour = false := by
  simp only [spkB, List.any_cons, List.any_nil, Bool.or_false]
  cases decide (s.up ≤ hour) <;> cases decide (hour < s.down) <;> simp
theorem selP_covered (len hour dir : Int) (l : List Sg) (k : Nat) (hk : k < l.length) (A : Option Addr) (c : Nat) (s : Sg) :
    selP len hour dir (l.set k { s with cA := A, cc := c, cov := [(s.up, s.down)] }) = selP len hour dir (l.eraseIdx k) := by
  unfold selP
  rw [filter_set (by simp [spk_covered]) l k hk]

theorem sgsB_sub {len : Int} {js : List Int} {l l' : List Sg} (h : sgsB len js l = true) (hs : l'.Sublist l) : sgsB len js l' = true := by
  simp only [sgsB, Bool.and_eq_true, decide_eq_true_eq, List.all_eq_true] at h ⊢
  obtain ⟨⟨⟨h1, h2⟩, h3⟩, h4⟩ := h
  exact ⟨⟨⟨h1, by have := hs.length_le; omega⟩, fun s hm => h3 s (hs.subset hm)⟩, h4.sublist (hs.map _)⟩
theorem signOk_covered {len : Int} {s : Sg} {A : Option Addr} {c : Nat} (h : signOk len s = true) : signOk len { s with cA := A, cc := c, cov := [(s.up, s.down)] } = true := by
  rw [signOk_iff] at h ⊢
  obtain ⟨h1, h2, h3, h4, h5, h6, h7, h8⟩ := h
  exact ⟨h1, h2, h3, h4, h5, h6, by simp, fun c hc => by simp at hc; subst hc; exact h6⟩
theorem sgsB_covered {len : Int} {js : List Int} {l : List Sg} {k : Nat} (hk : k < l.length) {A : Option Addr} {c : Nat} (h : sgsB len js l = true) : sgsB len js (l.set k { l[k] with cA := A, cc := c, cov := [(l[k].up, l[k].down)] }) = true := by
  simp only [sgsB, Bool.and_eq_true, decide_eq_true_eq, List.all_eq_true] at h ⊢
  obtain ⟨⟨⟨h1, h2⟩, h3⟩, h4⟩ := h
  refine ⟨⟨⟨h1, by simpa using h2⟩, fun s hm => ?_⟩, ?_⟩
  · rcases List.mem_or_eq_of_mem_set hm with hm | hm
    · exact h3 s hm
    · subst hm; exact signOk_covered (h3 _ (List.getElem_mem hk))
  · rw [List.map_set]
    have : (l.map Sg.num).set k l[k].num = l.map Sg.num := by
      apply List.ext_getElem (by simp)
      intro i h1 h2
      by_cases e : k = i
      · subst e; simp
      · rw [List.getElem_set_ne e]
    rw [this]; exact h4

theorem askedE_ok {len : Int} {js : List Int} {l : List Sg} {hour dir topic : Int} (h1 : lineB len js = true) (h2 : sgsB len js l = true) (h3 : 0 ≤ hour ∧ hour ≤ 10000000) (h4 : dirB dir = true) (h5 : topic = 1 ∨ topic = 2) : askedE len js l hour dir topic = 0 := by
  have h6 : 1 ≤ topic ∧ topic ≤ 2 := by omega
  simp [askedE, h1, h2, h3, h4, h6]

/-! without plates -/
def npStep (len : Int) (js : List Int) (dir topic k : Int) (v : Int) (m : Mt) : Int :=
  match saysP m.s topic with
  | none => v
  | some u => if m.far ≤ k then (if u ≠ 0 ∧ junMin len dir m.far js len ≤ k then 0 else u) else v
theorem hold_np {len : Int} {js : List Int} {R : List Mt} {dir topic k : Int} (hp : ∀ m ∈ R, m.s.kind ≠ 7) : holdP len js R dir topic k = R.foldl (npStep len js dir topic k) 0 := by
  have hpl : ∀ i, platedP R i = false := fun i => by
    cases h : platedP R i with
    | false => rfl
    | true =>
      have h1 := platedP_lt h
      rw [platedP_eq h1] at h
      simp at h
      exact absurd h.1 (hp _ (List.getElem_mem h1))
  have key : ∀ n, n ≤ R.length → holdRun len js R dir topic k n = (R.take n).foldl (npStep len js dir topic k) 0 := by
    intro n
    induction n with
    | zero => intro _; simp [holdRun]
    | succ n ih =>
      intro hn
      have hlt : n < R.length := hn
      rw [holdRun_succ, ih (by omega), List.take_succ_eq_append_getElem hlt, List.foldl_append]
      generalize (R.take n).foldl (npStep len js dir topic k) 0 = v0
      show holdStep len js R dir topic k v0 n = npStep len js dir topic k v0 R[n]
      unfold holdStep npStep
      rw [List.getElem?_eq_getElem hlt]
      dsimp only
      cases saysP R[n].s topic with
      | none => rfl
      | some u => dsimp only; rw [reachP_no hlt (hpl n)]
  have := key R.length (Nat.le_refl _)
  rw [List.take_length] at this
  exact this
theorem foldl_filter_none {len : Int} {js : List Int} {dir topic k : Int} {p : Mt → Bool} (hp : ∀ m, p m = false → saysP m.s topic = none) : ∀ (R : List Mt) (v : Int), (R.filter p).foldl (npStep len js dir topic k) v = R.foldl (npStep len js dir topic k) v := by
  intro R
  induction R with
  | nil => intro v; rfl
  | cons m R ih =>
    intro v
    rw [List.filter_cons]
    by_cases h : p m = true
    · rw [if_pos h, List.foldl_cons, List.foldl_cons, ih]
    · rw [if_neg h, List.foldl_cons, ih]
      congr 1
      simp [npStep, hp m (by simpa using h)]
def notPl (s : Sg) : Bool := s.kind != 7
def notWr (s : Sg) : Bool := s.kind != 7 && (s.kind != 8 && s.kind != 6)
theorem says_none {s : Sg} {topic : Int} (h : notWr s = false) : saysP s topic = none := by
  unfold notWr at h
  unfold saysP
  simp at h
  have : s.kind = 7 ∨ s.kind = 8 ∨ s.kind = 6 := by omega
  rcases this with h | h | h <;> simp [h]
theorem hold_warnings {len hour dir : Int} {js : List Int} {l : List Sg} {R R2 : List Mt} {topic k : Int} (h : IsRow len hour dir (l.filter notPl) R) (h2 : IsRow len hour dir (l.filter notWr) R2) (hn : (l.map Sg.num).Nodup) :
    holdP len js R dir topic k = holdP len js R2 dir topic k := by
  have hmem : ∀ {p : Sg → Bool} {Q : List Mt}, IsRow len hour dir (l.filter p) Q → ∀ m ∈ Q, p m.s = true := fun {p Q} hq m hm => by
    have := hq.perm.subset hm
    simp only [selP, List.mem_map, List.mem_filter] at this
    obtain ⟨s, ⟨⟨-, hp⟩, -⟩, rfl⟩ := this
    exact hp
  have hR2 : R2 = R.filter (fun m => notWr m.s) := by
    have h3 : IsRow len hour dir (l.filter notWr) (R.filter fun m => notWr m.s) := by
      refine ⟨?_, h.sorted.sublist List.filter_sublist⟩
      have h4 := h.perm.filter (fun m => notWr m.s)
      have h5 : (selP len hour dir (l.filter notPl)).filter (fun m => notWr m.s) = selP len hour dir (l.filter notWr) := by
        unfold selP
        rw [List.filter_map, List.filter_filter, List.filter_filter, List.filter_filter]
        congr 1
        apply List.filter_congr
        intro s _
        simp only [Function.comp, notWr, notPl]
        cases (s.kind != 7) <;> cases (s.kind != 8 && s.kind != 6) <;> cases (decide (s.dir = dir) && spkB s hour) <;> rfl
      rw [h5] at h4; exact h4
    exact row_unique h2 h3 (List.Perm.refl _) (hn.sublist ((List.filter_sublist).map _))
  rw [hold_np (fun m hm => by have := hmem h m hm; simpa [notPl] using this), hold_np (fun m hm => by have := hmem h2 m hm; simp [notWr] at this; exact this.1), hR2]
  exact (foldl_filter_none (fun m hm => says_none hm) R 0).symm

end Go.Proofs.YtmpngoejnmlmbaaGreat
