/-
  What holds at a distance: package rule's events and the reference's search agree. Plain: no walk.
-/
import Derived.Test.YtmpngoejnmlmbaaGreatStrip
import Derived.Test.YtmpngoejnmlmbaaGreatRefRow
set_option linter.unusedSimpArgs false
set_option linter.unusedVariables false
namespace Go.Proofs.YtmpngoejnmlmbaaGreat
open Go.RowKit

def atP (ev : List (Int × Int)) (k : Int) : Int := ev.foldl (fun v e => if e.1 ≤ k then e.2 else v) 0
theorem atP_snoc (ev : List (Int × Int)) (e : Int × Int) (k : Int) : atP (ev ++ [e]) k = if e.1 ≤ k then e.2 else atP ev k := by simp [atP]

def holdStep (len : Int) (js : List Int) (R : List Mt) (dir topic k : Int) (v : Int) (i : Nat) : Int :=
  match R[i]? with
  | none => v
  | some m => match saysP m.s topic with
    | none => v
    | some u => if m.far ≤ k then (if u ≠ 0 ∧ reachP len js R i dir ≤ k then 0 else u) else v
def holdRun (len : Int) (js : List Int) (R : List Mt) (dir topic k : Int) (n : Nat) : Int := (List.range n).foldl (holdStep len js R dir topic k) 0
def holdP (len : Int) (js : List Int) (R : List Mt) (dir topic k : Int) : Int := holdRun len js R dir topic k R.length
theorem holdRun_succ (len : Int) (js : List Int) (R : List Mt) (dir topic k : Int) (n : Nat) : holdRun len js R dir topic k (n + 1) = holdStep len js R dir topic k (holdRun len js R dir topic k n) n := by
  simp [holdRun, List.range_succ]

def stV (st : List (Int × Int) × Int) (k : Int) : Int := if 0 ≤ st.2 ∧ st.2 ≤ k then 0 else atP st.1 k
theorem stopP_at (st : List (Int × Int) × Int) {far k : Int} (h : k < far) : atP (stopP st.1 st.2 far).1 k = stV st k := by
  unfold stopP stV
  by_cases h1 : 0 ≤ st.2 ∧ st.2 ≤ far
  · rw [if_pos h1]
    simp only [atP_snoc]
    by_cases h2 : st.2 ≤ k
    · rw [if_pos h2, if_pos ⟨h1.1, h2⟩]
    · rw [if_neg h2, if_neg (fun h => h2 h.2)]
  · rw [if_neg h1, if_neg (fun h' => h1 ⟨h'.1, by omega⟩)]

theorem junMin_ge {len dir far : Int} {js : List Int} : ∀ {e : Int}, far ≤ e → far ≤ junMin len dir far js e := by
  induction js with
  | nil => intro e h; exact h
  | cons j js ih =>
    intro e h
    simp only [junMin, List.foldl_cons]
    refine ih ?_
    split <;> omega
theorem junMin_le {len dir far k : Int} {js : List Int} : ∀ {e : Int}, junMin len dir far js e ≤ k ↔ e ≤ k ∨ ∃ j ∈ js, far < distI len dir j ∧ distI len dir j ≤ k := by
  induction js with
  | nil => intro e; simp [junMin]
  | cons j js ih =>
    intro e
    have h := ih (e := if far < distI len dir j then min e (distI len dir j) else e)
    simp only [junMin, List.foldl_cons] at h ⊢
    rw [h]
    constructor
    · rintro (h1 | ⟨i, hi, h1⟩)
      · by_cases hf : far < distI len dir j
        · rw [if_pos hf] at h1
          rcases (show e ≤ k ∨ distI len dir j ≤ k by omega) with h2 | h2
          · exact .inl h2
          · exact .inr ⟨j, by simp, hf, h2⟩
        · rw [if_neg hf] at h1; exact .inl h1
      · exact .inr ⟨i, by simp [hi], h1⟩
    · rintro (h1 | ⟨i, hi, h1, h2⟩)
      · left; split <;> omega
      · rcases List.mem_cons.1 hi with rfl | hi
        · left; rw [if_pos h1]; omega
        · exact .inr ⟨i, hi, h1, h2⟩

theorem reachP_ge {len : Int} {js : List Int} {R : List Mt} {dir : Int} (hok : RowOk len R) {i : Nat} (hi : i < R.length) : R[i].far ≤ reachP len js R i dir := by
  have h0 := hok _ (List.getElem_mem hi)
  by_cases hp : platedP R i = true
  · have h1 := platedP_lt hp
    have h2 := hok _ (List.getElem_mem h1)
    rw [reachP_yes h1 hp]
    exact junMin_ge (by omega)
  · rw [Bool.not_eq_true] at hp
    rw [reachP_no hi hp]
    exact junMin_ge (by omega)
/-- Where a value's reach ends at or before a distance. -/
def cutB (len : Int) (js : List Int) (R : List Mt) (i : Nat) (dir k : Int) : Prop :=
  (platedP R i = true ∧ ∃ a b, R[i]? = some a ∧ R[i + 1]? = some b ∧ a.far + b.s.val ≤ k) ∨ ∃ a, R[i]? = some a ∧ ∃ j ∈ js, a.far < distI len dir j ∧ distI len dir j ≤ k
theorem reachP_le {len : Int} {js : List Int} {R : List Mt} {dir k : Int} {i : Nat} (hi : i < R.length) (hk : k < len) : reachP len js R i dir ≤ k ↔ cutB len js R i dir k := by
  unfold cutB
  by_cases hp : platedP R i = true
  · have h1 := platedP_lt hp
    rw [reachP_yes h1 hp, junMin_le]
    simp only [hp, List.getElem?_eq_getElem hi, List.getElem?_eq_getElem h1, Option.some.injEq]
    constructor
    · rintro (h | ⟨j, hj, h2⟩)
      · exact .inl ⟨trivial, _, _, rfl, rfl, by omega⟩
      · exact .inr ⟨_, rfl, j, hj, h2⟩
    · rintro (⟨-, a, b, rfl, rfl, h⟩ | ⟨a, rfl, j, hj, h2⟩)
      · left; omega
      · exact .inr ⟨j, hj, h2⟩
  · rw [Bool.not_eq_true] at hp
    rw [reachP_no hi hp, junMin_le]
    simp only [hp, List.getElem?_eq_getElem hi, Option.some.injEq]
    constructor
    · rintro (h | ⟨j, hj, h2⟩)
      · omega
      · exact .inr ⟨_, rfl, j, hj, h2⟩
    · rintro (⟨h, -⟩ | ⟨a, rfl, j, hj, h2⟩)
      · cases h
      · exact .inr ⟨j, hj, h2⟩

theorem stV_step {len : Int} {js : List Int} {R : List Mt} {dir topic k : Int} (hok : RowOk len R) (n : Nat) (st : List (Int × Int) × Int) :
    stV (evStep len js R dir topic st n) k = holdStep len js R dir topic k (stV st k) n := by
  unfold evStep holdStep
  rcases Nat.lt_or_ge n R.length with hn | hn
  · have h0 := hok _ (List.getElem_mem hn)
    have hr := reachP_ge (js := js) (dir := dir) hok hn
    rw [List.getElem?_eq_getElem hn]
    dsimp only
    cases hs : saysP R[n].s topic with
    | none => rfl
    | some u =>
      dsimp only
      by_cases hf : R[n].far ≤ k
      · rw [if_pos hf]
        unfold stV
        simp only [atP_snoc, if_pos hf]
        by_cases hu : u = 0
        · subst hu; simp
        · simp only [if_neg hu]
          by_cases hk : reachP len js R n dir ≤ k
          · rw [if_pos ⟨by omega, hk⟩, if_pos ⟨hu, hk⟩]
          · rw [if_neg (fun h => hk h.2), if_neg (fun h => hk h.2)]
      · rw [if_neg hf]
        rw [← stopP_at st (far := R[n].far) (k := k) (by omega)]
        conv => lhs; unfold stV
        simp only [atP_snoc, if_neg hf]
        rw [if_neg]
        split <;> omega
  · rw [List.getElem?_eq_none hn]
theorem stV_run {len : Int} {js : List Int} {R : List Mt} {dir topic k : Int} (hok : RowOk len R) (n : Nat) : stV (evRun len js R dir topic n) k = holdRun len js R dir topic k n := by
  induction n with
  | zero => simp [evRun, holdRun, stV, atP]
  | succ n ih => rw [evRun_succ, holdRun_succ, stV_step hok, ih]
/-- What package rule's events say at a distance. -/
theorem at_events {len : Int} {js : List Int} {R : List Mt} {dir topic k : Int} (hok : RowOk len R) (hk : k < len) : atP (eventsP len js R dir topic) k = holdP len js R dir topic k := by
  unfold eventsP holdP
  rw [stopP_at _ hk, stV_run hok]

/-! the reference -/
def startP (s : Sg) (topic : Int) : Int := if topic = 1 ∧ s.kind = 1 then s.val else if topic = 2 ∧ s.kind = 3 then 1 else 0
def endB (s : Sg) (topic : Int) : Bool := decide (s.kind = 5) || (decide (topic = 1) && decide (s.kind = 2)) || (decide (topic = 2) && decide (s.kind = 4))
theorem says_of {s : Sg} {topic : Int} (h : valuedB s.kind s.val = true) : saysP s topic = if endB s topic = true then some 0 else if 0 < startP s topic then some (startP s topic) else none := by
  unfold saysP endB startP
  unfold valuedB at h
  by_cases h5 : s.kind = 5
  · simp [h5]
  · by_cases h1 : topic = 1
    · subst h1
      by_cases k1 : s.kind = 1
      · simp [k1] at h ⊢; omega
      · by_cases k2 : s.kind = 2
        · simp [k2] at h ⊢; exact h
        · simp [k1, k2, h5]
    · by_cases h2 : topic = 2
      · subst h2
        by_cases k3 : s.kind = 3
        · simp [k3]
        · by_cases k4 : s.kind = 4 <;> simp [k3, k4, h5]
      · simp [h1, h2, h5]

/-- The last sign of the first n that counts at a distance. -/
def cntB (R : List Mt) (topic k : Int) (i : Nat) : Bool := match R[i]? with
  | none => false
  | some m => decide (m.far ≤ k) && (decide (0 < startP m.s topic) || endB m.s topic)
def lastX (R : List Mt) (topic k : Int) (n : Nat) : Int := (List.range n).foldl (fun x i => if cntB R topic k i = true then (i : Int) else x) (-1)
theorem lastX_succ (R : List Mt) (topic k : Int) (n : Nat) : lastX R topic k (n + 1) = if cntB R topic k n = true then (n : Int) else lastX R topic k n := by
  simp [lastX, List.range_succ]
theorem lastX_lt (R : List Mt) (topic k : Int) (n : Nat) : -1 ≤ lastX R topic k n ∧ lastX R topic k n < n := by
  induction n with
  | zero => simp [lastX]
  | succ n ih => rw [lastX_succ]; split <;> omega
theorem lastX_cnt (R : List Mt) (topic k : Int) (n : Nat) (h : 0 ≤ lastX R topic k n) : cntB R topic k (lastX R topic k n).toNat = true := by
  induction n with
  | zero => simp [lastX] at h
  | succ n ih =>
    rw [lastX_succ] at h ⊢
    split
    · rename_i hc; simpa using hc
    · rename_i hc; rw [if_neg hc] at h; exact ih h
open Classical in
noncomputable def refP (len : Int) (js : List Int) (R : List Mt) (dir topic k : Int) (x : Int) : Int :=
  if x < 0 then 0 else match R[x.toNat]? with
    | none => 0
    | some m => if endB m.s topic = true then 0 else if cutB len js R x.toNat dir k then 0 else startP m.s topic
theorem refP_end {len : Int} {js : List Int} {R : List Mt} {dir topic k : Int} {m : Nat} {a : Mt} (h : R[m]? = some a) (he : endB a.s topic = true) : refP len js R dir topic k m = 0 := by
  simp [refP, show ¬ ((m : Int) < 0) by omega, h, he]
theorem refP_cut {len : Int} {js : List Int} {R : List Mt} {dir topic k : Int} {m : Nat} {a : Mt} (h : R[m]? = some a) (hc : cutB len js R m dir k) : refP len js R dir topic k m = 0 := by
  simp [refP, show ¬ ((m : Int) < 0) by omega, h, hc]
theorem refP_start {len : Int} {js : List Int} {R : List Mt} {dir topic k : Int} {m : Nat} {a : Mt} (h : R[m]? = some a) (he : endB a.s topic = false) (hc : ¬ cutB len js R m dir k) : refP len js R dir topic k m = startP a.s topic := by
  simp [refP, show ¬ ((m : Int) < 0) by omega, h, he, hc]
theorem hold_ref {len : Int} {js : List Int} {R : List Mt} {dir topic k : Int} (hk : k < len) (hv : ∀ m ∈ R, valuedB m.s.kind m.s.val = true) (n : Nat) (hn : n ≤ R.length) :
    holdRun len js R dir topic k n = refP len js R dir topic k (lastX R topic k n) := by
  induction n with
  | zero => simp [holdRun, lastX, refP]
  | succ n ih =>
    have hlt : n < R.length := hn
    rw [holdRun_succ, lastX_succ, ih (by omega)]
    unfold holdStep
    have hc : cntB R topic k n = (decide (R[n].far ≤ k) && (decide (0 < startP R[n].s topic) || endB R[n].s topic)) := by simp [cntB, List.getElem?_eq_getElem hlt]
    rw [List.getElem?_eq_getElem hlt]
    dsimp only
    rw [says_of (hv _ (List.getElem_mem hlt)), hc]
    have hr := reachP_le (js := js) (dir := dir) hlt hk
    by_cases hf : R[n].far ≤ k
    · by_cases he : endB R[n].s topic = true
      · simp [hf, he, refP, List.getElem?_eq_getElem hlt, show ¬ ((n : Int) < 0) by omega]
      · by_cases hs : 0 < startP R[n].s topic
        · have hx : (if (decide (R[n].far ≤ k) && (decide (0 < startP R[n].s topic) || endB R[n].s topic)) = true then (n : Int) else lastX R topic k n) = n := if_pos (by simp [hf, hs])
          rw [hx]
          simp only [hf, he, hs, if_true, Bool.false_eq_true, if_false, refP, show ¬ ((n : Int) < 0) by omega, Int.toNat_natCast, List.getElem?_eq_getElem hlt]
          by_cases hcut : cutB len js R n dir k
          · rw [if_pos ⟨by omega, hr.2 hcut⟩, if_pos hcut]
          · rw [if_neg (fun h => hcut (hr.1 h.2)), if_neg hcut]
        · simp [hf, he, hs]
    · by_cases he : endB R[n].s topic = true
      · simp [hf, he]
      · by_cases hs : 0 < startP R[n].s topic <;> simp [hf, he, hs]
theorem holdP_ref {len : Int} {js : List Int} {R : List Mt} {dir topic k : Int} (hk : k < len) (hv : ∀ m ∈ R, valuedB m.s.kind m.s.val = true) :
    holdP len js R dir topic k = refP len js R dir topic k (lastX R topic k R.length) := hold_ref hk hv _ (Nat.le_refl _)

end Go.Proofs.YtmpngoejnmlmbaaGreat
