/-
  What the functions of package rule compute, in plain Lean: no program in sight.
-/
namespace Go.Proofs.YtmpngoejnmlmbaaGreat

def hoursB (a b : Int) : Bool := decide (0 ≤ a ∧ a < b ∧ b ≤ 10000001)
def dirB (d : Int) : Bool := decide (d = 1 ∨ d = -1)
def valuedB (kind v : Int) : Bool :=
  if kind = 1 ∨ kind = 6 then decide (10 ≤ v ∧ v ≤ 200) else if kind = 7 then decide (1 ≤ v ∧ v ≤ 100000) else if kind = 8 then decide (0 ≤ v ∧ v ≤ 1000) else decide (v = 0)
def rvaluedB (kind v : Int) : Bool := decide (1 ≤ kind ∧ kind ≤ 8) && valuedB kind v

/-- A line's length and junctions are right. -/
def lineP (len : Int) (js : List Int) : Prop :=
  1 ≤ len ∧ len ≤ 100000 ∧ js.length ≤ 50 ∧ ∀ k, k < js.length → 1 ≤ js.getD k 0 ∧ js.getD k 0 ≤ len - 1 ∧ (0 < k → js.getD (k - 1) 0 < js.getD k 0)
def lineOk (len : Int) (js : List Int) (k : Nat) : Prop := 1 ≤ js.getD k 0 ∧ js.getD k 0 ≤ len - 1 ∧ (0 < k → js.getD (k - 1) 0 < js.getD k 0)
open Classical in
noncomputable def lineB (len : Int) (js : List Int) : Bool := decide (lineP len js)

theorem lineOk_iff {len : Int} {js : List Int} {k : Nat} (h : k < js.length) : lineOk len js k ↔ 1 ≤ js[k] ∧ js[k] ≤ len - 1 ∧ (0 < k → js[k - 1]?.getD 0 < js[k]) := by
  simp [lineOk, List.getD_eq_getElem?_getD, List.getElem?_eq_getElem h]
theorem lineB_iff {len : Int} {js : List Int} : lineB len js = true ↔ 1 ≤ len ∧ len ≤ 100000 ∧ js.length ≤ 50 ∧ ∀ k, k < js.length → lineOk len js k := by
  simp [lineB, lineP, lineOk]
theorem lineB_no {len : Int} {js : List Int} {k : Nat} (h : k < js.length) (hn : ¬ (1 ≤ js[k] ∧ js[k] ≤ len - 1 ∧ (0 < k → js[k - 1]?.getD 0 < js[k]))) : ¬ lineB len js = true := by
  rw [lineB_iff]; rintro ⟨_, _, _, h4⟩; exact hn ((lineOk_iff h).1 (h4 k h))
theorem lineOk_next {len : Int} {js : List Int} {k : Nat} (hk : k < js.length) (h : ∀ j, j < k → lineOk len js j) (hn : 1 ≤ js[k] ∧ js[k] ≤ len - 1 ∧ (0 < k → js[k - 1]?.getD 0 < js[k])) : ∀ j, j < k + 1 → lineOk len js j := by
  intro j hj
  by_cases e : j = k
  · subst e; exact (lineOk_iff hk).2 hn
  · exact h j (by omega)

end Go.Proofs.YtmpngoejnmlmbaaGreat
