/-
  Which signs play a part for what holds. Plain: no walk. The reference's gaps are package rule's. Plain: no walk. The row of a direction, named; the gaps of a line. Plain: no walk.
-/
import Derived.Test.YtmpngoejnmlmbaaGreatRowsP
import Derived.Test.YtmpngoejnmlmbaaGreatHoldP
import Derived.Test.YtmpngoejnmlmbaaGreatHeld2
import Derived.Test.YtmpngoejnmlmbaaGreatGapP
import Derived.Test.YtmpngoejnmlmbaaGreatRefKit
set_option linter.unusedSimpArgs false
set_option linter.unusedVariables false
namespace Go.Proofs.YtmpngoejnmlmbaaGreat
open Go.RowKit

section
theorem row_unique {len hour dir : Int} {l l' : List Sg} {R R2 : List Mt} (h : IsRow len hour dir l R) (h2 : IsRow len hour dir l' R2) (hp : (selP len hour dir l).Perm (selP len hour dir l')) (hn : (l.map Sg.num).Nodup) : R = R2 := by
  have hnd : ((selP len hour dir l).map (fun m => m.s.num)).Nodup := by
    simp only [selP, List.map_map]
    exact hn.sublist ((List.filter_sublist).map _)
  have hp2 := (h2.perm.trans hp.symm)
  refine List.Perm.eq_of_pairwise (le := fun a b => ¬ mtLt b a) (fun a b ha hb h3 h4 => ?_) h.sorted h2.sorted (h.perm.trans hp2.symm)
  refine map_inj_of hnd (h.perm.subset ha) (hp2.subset hb) ?_
  unfold mtLt at h3 h4; omega

theorem selP_speaking (len hour dir : Int) (l : List Sg) : selP len hour dir (l.filter fun s => spkB s hour) = selP len hour dir l := by
  unfold selP
  rw [List.filter_filter]
  congr 1
  apply List.filter_congr
  intro s _
  cases spkB s hour <;> simp

theorem filter_set {p : Sg → Bool} {s' : Sg} (hs : p s' = false) (l : List Sg) (k : Nat) (hk : k < l.length) : (l.set k s').filter p = (l.eraseIdx k).filter p := by
  induction l generalizing k with
  | nil => simp at hk
  | cons x l ih =>
    cases k with
    | zero => simp [hs]
    | succ k => simp only [List.set_cons_succ, List.eraseIdx_cons_succ, List.filter_cons, ih k (by simpa using hk)]
theorem spk_covered {s : Sg} {hour : Int} {A : Option Addr} {c : Nat} : spkB { s with cA := A, cc := c, cov := [(s.up, s.down)] } hour = false := by
  simp only [spkB, List.any_cons, List.any_nil, Bool.or_false]
  cases decide (s.up ≤ hour) <;> cases decide (hour < s.down) <;> simp
theorem selP_covered (len hour dir : Int) (l : List Sg) (k : Nat) (hk : k < l.length) (A : Option Addr) (c : Nat) (s : Sg) :
    selP len hour dir (l.set k { s with cA := A, cc := c, cov := [(s.up, s.down)] }) = selP len hour dir (l.eraseIdx k) := by
  unfold selP
  rw [filter_set (by simp [spk_covered]) l k hk]

theorem sgsB_sub {len : Int} {js : List Int} {l l' : List Sg} (h : sgsB len js l = true) (hs : l'.Sublist l) : sgsB len js l' = true := by
  simp only [sgsB, Bool.and_eq_true, decide_eq_true_eq, List.all_eq_true] at h ⊢
  obtain ⟨⟨⟨h1, h2⟩, h3⟩, h4⟩ := h
  exact ⟨⟨⟨h1, by have := hs.length_le; omega⟩, fun s hm => h3 s (hs.subset hm)⟩, h4.sublist (hs.map _)⟩
theorem signOk_covered {len : Int} {s : Sg} {A : Option Addr} {c : Nat} (h : signOk len s = true) : signOk len { s with cA := A, cc := c, cov := [(s.up, s.down)] } = true := by
  rw [signOk_iff] at h ⊢
  obtain ⟨h1, h2, h3, h4, h5, h6, h7, h8⟩ := h
  exact ⟨h1, h2, h3, h4, h5, h6, by simp, fun c hc => by simp at hc; subst hc; exact h6⟩
theorem sgsB_covered {len : Int} {js : List Int} {l : List Sg} {k : Nat} (hk : k < l.length) {A : Option Addr} {c : Nat} (h : sgsB len js l = true) : sgsB len js (l.set k { l[k] with cA := A, cc := c, cov := [(l[k].up, l[k].down)] }) = true := by
  simp only [sgsB, Bool.and_eq_true, decide_eq_true_eq, List.all_eq_true] at h ⊢
  obtain ⟨⟨⟨h1, h2⟩, h3⟩, h4⟩ := h
  refine ⟨⟨⟨h1, by simpa using h2⟩, fun s hm => ?_⟩, ?_⟩
  · rcases List.mem_or_eq_of_mem_set hm with hm | hm
    · exact h3 s hm
    · subst hm; exact signOk_covered (h3 _ (List.getElem_mem hk))
  · rw [List.map_set]
    have : (l.map Sg.num).set k l[k].num = l.map Sg.num := by
      apply List.ext_getElem (by simp)
      intro i h1 h2
      by_cases e : k = i
      · subst e; simp
      · rw [List.getElem_set_ne e]
    rw [this]; exact h4

theorem askedE_ok {len : Int} {js : List Int} {l : List Sg} {hour dir topic : Int} (h1 : lineB len js = true) (h2 : sgsB len js l = true) (h3 : 0 ≤ hour ∧ hour ≤ 10000000) (h4 : dirB dir = true) (h5 : topic = 1 ∨ topic = 2) : askedE len js l hour dir topic = 0 := by
  have h6 : 1 ≤ topic ∧ topic ≤ 2 := by omega
  simp [askedE, h1, h2, h3, h4, h6]

/-! without plates -/
def npStep (len : Int) (js : List Int) (dir topic k : Int) (v : Int) (m : Mt) : Int :=
  match saysP m.s topic with
  | none => v
  | some u => if m.far ≤ k then (if u ≠ 0 ∧ junMin len dir m.far js len ≤ k then 0 else u) else v
theorem hold_np {len : Int} {js : List Int} {R : List Mt} {dir topic k : Int} (hp : ∀ m ∈ R, m.s.kind ≠ 7) : holdP len js R dir topic k = R.foldl (npStep len js dir topic k) 0 := by
  have hpl : ∀ i, platedP R i = false := fun i => by
    cases h : platedP R i with
    | false => rfl
    | true =>
      have h1 := platedP_lt h
      rw [platedP_eq h1] at h
      simp at h
      exact absurd h.1 (hp _ (List.getElem_mem h1))
  have key : ∀ n, n ≤ R.length → holdRun len js R dir topic k n = (R.take n).foldl (npStep len js dir topic k) 0 := by
    intro n
    induction n with
    | zero => intro _; simp [holdRun]
    | succ n ih =>
      intro hn
      have hlt : n < R.length := hn
      rw [holdRun_succ, ih (by omega), List.take_succ_eq_append_getElem hlt, List.foldl_append]
      generalize (R.take n).foldl (npStep len js dir topic k) 0 = v0
      show holdStep len js R dir topic k v0 n = npStep len js dir topic k v0 R[n]
      unfold holdStep npStep
      rw [List.getElem?_eq_getElem hlt]
      dsimp only
      cases saysP R[n].s topic with
      | none => rfl
      | some u => dsimp only; rw [reachP_no hlt (hpl n)]
  have := key R.length (Nat.le_refl _)
  rw [List.take_length] at this
  exact this
theorem foldl_filter_none {len : Int} {js : List Int} {dir topic k : Int} {p : Mt → Bool} (hp : ∀ m, p m = false → saysP m.s topic = none) : ∀ (R : List Mt) (v : Int), (R.filter p).foldl (npStep len js dir topic k) v = R.foldl (npStep len js dir topic k) v := by
  intro R
  induction R with
  | nil => intro v; rfl
  | cons m R ih =>
    intro v
    rw [List.filter_cons]
    by_cases h : p m = true
    · rw [if_pos h, List.foldl_cons, List.foldl_cons, ih]
    · rw [if_neg h, List.foldl_cons, ih]
      congr 1
      simp [npStep, hp m (by simpa using h)]
def notPl (s : Sg) : Bool := s.kind != 7
def notWr (s : Sg) : Bool := s.kind != 7 && (s.kind != 8 && s.kind != 6)
theorem says_none {s : Sg} {topic : Int} (h : notWr s = false) : saysP s topic = none := by
  unfold notWr at h
  unfold saysP
  simp at h
  have : s.kind = 7 ∨ s.kind = 8 ∨ s.kind = 6 := by omega
  rcases this with h | h | h <;> simp [h]
theorem hold_warnings {len hour dir : Int} {js : List Int} {l : List Sg} {R R2 : List Mt} {topic k : Int} (h : IsRow len hour dir (l.filter notPl) R) (h2 : IsRow len hour dir (l.filter notWr) R2) (hn : (l.map Sg.num).Nodup) :
    holdP len js R dir topic k = holdP len js R2 dir topic k := by
  have hmem : ∀ {p : Sg → Bool} {Q : List Mt}, IsRow len hour dir (l.filter p) Q → ∀ m ∈ Q, p m.s = true := fun {p Q} hq m hm => by
    have := hq.perm.subset hm
    simp only [selP, List.mem_map, List.mem_filter] at this
    obtain ⟨s, ⟨⟨-, hp⟩, -⟩, rfl⟩ := this
    exact hp
  have hR2 : R2 = R.filter (fun m => notWr m.s) := by
    have h3 : IsRow len hour dir (l.filter notWr) (R.filter fun m => notWr m.s) := by
      refine ⟨?_, h.sorted.sublist List.filter_sublist⟩
      have h4 := h.perm.filter (fun m => notWr m.s)
      have h5 : (selP len hour dir (l.filter notPl)).filter (fun m => notWr m.s) = selP len hour dir (l.filter notWr) := by
        unfold selP
        rw [List.filter_map, List.filter_filter, List.filter_filter, List.filter_filter]
        congr 1
        apply List.filter_congr
        intro s _
        simp only [Function.comp, notWr, notPl]
        cases (s.kind != 7) <;> cases (s.kind != 8 && s.kind != 6) <;> cases (decide (s.dir = dir) && spkB s hour) <;> rfl
      rw [h5] at h4; exact h4
    exact row_unique h2 h3 (List.Perm.refl _) (hn.sublist ((List.filter_sublist).map _))
  rw [hold_np (fun m hm => by have := hmem h m hm; simpa [notPl] using this), hold_np (fun m hm => by have := hmem h2 m hm; simp [notWr] at this; exact this.1), hR2]
  exact (foldl_filter_none (fun m hm => says_none hm) R 0).symm
end

section
def rgpStep (topic dir : Int) (out : List Gp) (m h s : Int) : List Gp :=
  if h = s then out else
    match out.getLast? with
    | some g => if g.topic = topic ∧ g.dir = dir ∧ g.to = m ∧ g.has = h ∧ g.should = s then out.set (out.length - 1) g.up else out ++ [⟨topic, dir, m, m + 1, h, s⟩]
    | none => out ++ [⟨topic, dir, m, m + 1, h, s⟩]
/-- From place F on the gaps are of this topic and direction, before it none is. -/
structure PartOk (topic dir : Int) (F : Nat) (out : List Gp) : Prop where
  le : F ≤ out.length
  pre : ∀ i g, i < F → out[i]? = some g → ¬ (g.topic = topic ∧ g.dir = dir)
  suf : ∀ i g, F ≤ i → out[i]? = some g → g.topic = topic ∧ g.dir = dir
theorem rgp_eq {topic dir : Int} {F : Nat} {out : List Gp} (h : PartOk topic dir F out) (m x s : Int) : rgpStep topic dir out m x s = gpStep topic dir F out m x s := by
  unfold rgpStep gpStep
  split
  · rfl
  · cases hg : out.getLast? with
    | none => rfl
    | some g =>
      dsimp only
      rw [List.getLast?_eq_getElem?] at hg
      have hlt : out.length - 1 < out.length := (List.getElem?_eq_some_iff.1 hg).1
      have hiff : (g.topic = topic ∧ g.dir = dir ∧ g.to = m ∧ g.has = x ∧ g.should = s) ↔ (F < out.length ∧ g.to = m ∧ g.has = x ∧ g.should = s) := by
        constructor
        · rintro ⟨h1, h2, h3⟩
          refine ⟨?_, h3⟩
          rcases Nat.lt_or_ge F out.length with h4 | h4
          · exact h4
          · exact absurd ⟨h1, h2⟩ (h.pre _ g (by omega) hg)
        · rintro ⟨h1, h3⟩
          have h4 := h.suf _ g (by omega) hg
          exact ⟨h4.1, h4.2, h3⟩
      by_cases hc : F < out.length ∧ g.to = m ∧ g.has = x ∧ g.should = s
      · rw [if_pos hc, if_pos (hiff.2 hc)]
      · rw [if_neg hc, if_neg (fun h => hc (hiff.1 h))]
theorem PartOk.push {topic dir : Int} {F : Nat} {out : List Gp} (h : PartOk topic dir F out) (g : Gp) (h1 : g.topic = topic) (h2 : g.dir = dir) : PartOk topic dir F (out ++ [g]) := by
  have hle := h.le
  refine ⟨by simp; omega, fun i x hi hx => ?_, fun i x hi hx => ?_⟩
  · rw [List.getElem?_append_left (by omega)] at hx; exact h.pre i x hi hx
  · rcases Nat.lt_or_ge i out.length with h3 | h3
    · rw [List.getElem?_append_left h3] at hx; exact h.suf i x hi hx
    · rw [List.getElem?_append_right h3] at hx
      have : i - out.length = 0 := by
        rcases Nat.eq_zero_or_pos (i - out.length) with h4 | h4
        · exact h4
        · rw [List.getElem?_eq_none (by simp; omega)] at hx; cases hx
      rw [this] at hx
      simp at hx
      subst hx
      exact ⟨h1, h2⟩
theorem PartOk.step {topic dir : Int} {F : Nat} {out : List Gp} (h : PartOk topic dir F out) (m x s : Int) : PartOk topic dir F (gpStep topic dir F out m x s) := by
  unfold gpStep
  split
  · exact h
  · cases hg : out.getLast? with
    | none => exact h.push _ rfl rfl
    | some g =>
      dsimp only
      split
      · rename_i hc
        rw [List.getLast?_eq_getElem?] at hg
        refine ⟨by simpa using h.le, fun i y hi hy => ?_, fun i y hi hy => ?_⟩
        · rw [List.getElem?_set_ne (by omega)] at hy; exact h.pre i y hi hy
        · by_cases e : out.length - 1 = i
          · subst e
            rw [List.getElem?_set_self (List.getElem?_eq_some_iff.1 hg).1] at hy
            injection hy with hy
            subst hy
            exact h.suf _ g (by omega) hg
          · rw [List.getElem?_set_ne e] at hy; exact h.suf i y hi hy
      · exact h.push _ rfl rfl
theorem PartOk.run {topic dir : Int} {F : Nat} {out : List Gp} (h : PartOk topic dir F out) (H S : List Int) (k : Nat) : PartOk topic dir F (gpRun topic dir F H S out k) := by
  induction k with
  | zero => exact h
  | succ k ih =>
    have e : gpRun topic dir F H S out (k + 1) = gpStep topic dir F (gpRun topic dir F H S out k) k (H.getD k 0) (S.getD k 0) := by simp [gpRun, List.range_succ]
    rw [e]; exact ih.step _ _ _
theorem gpAll_pair (n : Nat) (hold must : Int → Int → List Int) (i : Nat) (hi : i ≤ 4) : ∀ g ∈ gpAll n hold must i, ∃ j, j < i ∧ g.topic = topI j ∧ g.dir = dirI j := by
  induction i with
  | zero => intro g hg; cases hg
  | succ i ih =>
    have hp : PartOk (topI i) (dirI i) (gpAll n hold must i).length (gpAll n hold must i) := by
      refine ⟨Nat.le_refl _, fun k g hk hg hh => ?_, fun k g hk hg => by rw [List.getElem?_eq_none hk] at hg; cases hg⟩
      obtain ⟨j, hj, h1, h2⟩ := ih (by omega) g (List.mem_of_getElem? hg)
      rw [h1, h2] at hh
      rcases (show i = 0 ∨ i = 1 ∨ i = 2 ∨ i = 3 by omega) with rfl | rfl | rfl | rfl <;> rcases (show j = 0 ∨ j = 1 ∨ j = 2 by omega) with rfl | rfl | rfl <;> simp [topI, dirI] at hh hj
    have hr := hp.run (hold (topI i) (dirI i)) (must (topI i) (dirI i)) n
    have hkeep : ∀ k, ∀ g ∈ gpRun (topI i) (dirI i) (gpAll n hold must i).length (hold (topI i) (dirI i)) (must (topI i) (dirI i)) (gpAll n hold must i) k, (∃ j, j < i ∧ g.topic = topI j ∧ g.dir = dirI j) ∨ (g.topic = topI i ∧ g.dir = dirI i) := by
      intro k
      induction k with
      | zero => intro g hg; exact .inl (ih (by omega) g hg)
      | succ k ihk =>
        have e : gpRun (topI i) (dirI i) (gpAll n hold must i).length (hold (topI i) (dirI i)) (must (topI i) (dirI i)) (gpAll n hold must i) (k + 1) = gpStep (topI i) (dirI i) (gpAll n hold must i).length (gpRun (topI i) (dirI i) (gpAll n hold must i).length (hold (topI i) (dirI i)) (must (topI i) (dirI i)) (gpAll n hold must i) k) k ((hold (topI i) (dirI i)).getD k 0) ((must (topI i) (dirI i)).getD k 0) := by simp [gpRun, List.range_succ]
        rw [e]
        intro g hg
        unfold gpStep at hg
        split at hg
        · exact ihk g hg
        · split at hg
          · rename_i y hy
            split at hg
            · rcases List.mem_or_eq_of_mem_set hg with hg | hg
              · exact ihk g hg
              · subst hg; exact ihk y (List.mem_of_getLast? hy)
            · rcases List.mem_append.1 hg with hg | hg
              · exact ihk g hg
              · simp at hg; subst hg; exact .inr ⟨rfl, rfl⟩
          · rcases List.mem_append.1 hg with hg | hg
            · exact ihk g hg
            · simp at hg; subst hg; exact .inr ⟨rfl, rfl⟩
    intro g hg
    rcases hkeep n g hg with ⟨j, hj, h⟩ | h
    · exact ⟨j, by omega, h⟩
    · exact ⟨i, by omega, h⟩
theorem gpAll_part (n : Nat) (hold must : Int → Int → List Int) (i : Nat) (hi : i < 4) : PartOk (topI i) (dirI i) (gpAll n hold must i).length (gpAll n hold must i) := by
  refine ⟨Nat.le_refl _, fun k g hk hg hh => ?_, fun k g hk hg => by rw [List.getElem?_eq_none hk] at hg; cases hg⟩
  obtain ⟨j, hj, h1, h2⟩ := gpAll_pair n hold must i (by omega) g (List.mem_of_getElem? hg)
  rw [h1, h2] at hh
  rcases (show i = 0 ∨ i = 1 ∨ i = 2 ∨ i = 3 by omega) with rfl | rfl | rfl | rfl <;> rcases (show j = 0 ∨ j = 1 ∨ j = 2 by omega) with rfl | rfl | rfl <;> simp [topI, dirI] at hh hj
end

section
theorem isRow_of_ins {len hour dir : Int} {l R2 : List Sg} (h2 : InsRow len hour dir l R2) : IsRow len hour dir l (mtl len dir R2) := by
  refine ⟨h2.perm.map _, ?_⟩
  unfold mtl
  rw [List.pairwise_map]
  refine List.Pairwise.imp_of_mem (fun {a b} ha hb h => ?_) h2.sorted
  have ea : a.dir = dir := by have := h2.perm.subset ha; simp [selS] at this; exact this.2.1
  have eb : b.dir = dir := by have := h2.perm.subset hb; simp [selS] at this; exact this.2.1
  simpa [sgLt, mtOf, ea, eb] using h

open Classical in
noncomputable def rowM (len hour dir : Int) (l : List Sg) : List Mt := if h : ∃ R, IsRow len hour dir l R then h.choose else []
theorem rowM_eq {len hour dir : Int} {l : List Sg} {R : List Mt} (h : IsRow len hour dir l R) (hn : (l.map Sg.num).Nodup) : R = rowM len hour dir l := by
  have hx : ∃ R, IsRow len hour dir l R := ⟨R, h⟩
  rw [rowM, dif_pos hx]
  exact row_unique h hx.choose_spec (List.Perm.refl _) hn
theorem rowM_ins {len hour dir : Int} {l R2 : List Sg} (h : InsRow len hour dir l R2) (hn : (l.map Sg.num).Nodup) : mtl len dir R2 = rowM len hour dir l := rowM_eq (isRow_of_ins h) hn

noncomputable def holdM (n : Nat) (js : List Int) (l : List Sg) (hour : Int) (topic dir : Int) : List Int := holdS n js (rowM n hour dir l) dir topic
def mustM (n : Nat) (ed : List Ed) (hour : Int) (topic dir : Int) : List Int := mustS n ed hour dir topic
noncomputable def gapsP (n : Nat) (js : List Int) (l : List Sg) (ed : List Ed) (hour : Int) : Nat → List Gp := gpAll n (holdM n js l hour) (mustM n ed hour)
theorem gapsP_succ (n : Nat) (js : List Int) (l : List Sg) (ed : List Ed) (hour : Int) (i : Nat) :
    gapsP n js l ed hour (i + 1) = gpRun (topI i) (dirI i) (gapsP n js l ed hour i).length (holdM n js l hour (topI i) (dirI i)) (mustM n ed hour (topI i) (dirI i)) (gapsP n js l ed hour i) n := rfl
theorem gapsP_len (n : Nat) (js : List Int) (l : List Sg) (ed : List Ed) (hour : Int) (i : Nat) : (gapsP n js l ed hour i).length ≤ i * n := gpAll_len _ _ _ _
theorem gapsP_part (n : Nat) (js : List Int) (l : List Sg) (ed : List Ed) (hour : Int) (i : Nat) (hi : i < 4) : PartOk (topI i) (dirI i) (gapsP n js l ed hour i).length (gapsP n js l ed hour i) := gpAll_part _ _ _ _ hi

def CmpPost (len : Int) (js : List Int) (l : List Sg) (ed : List Ed) (hour : Int) (w : World) (e : Ending) (w' : World) : Prop :=
  ∃ (A' : Option Addr) (c' : Nat) (G : List Gp), e = .returned (.tuple #[.slice A' G.length c', .int .i64 (allE len js l ed hour)]) ∧
    (allE len js l ed hour = 0 → G = gapsP len.toNat js l ed hour 4) ∧ (allE len js l ed hour ≠ 0 → G = []) ∧ Rd w' A' (gps G) ∧ G.length ≤ 400000 ∧ Below w.heap.size w w'
end

end Go.Proofs.YtmpngoejnmlmbaaGreat
