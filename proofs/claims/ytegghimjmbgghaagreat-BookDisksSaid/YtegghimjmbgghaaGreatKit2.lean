/-
  append as a step of a region, where the result lies in a new array or nothing is appended: nothing that was there has turned.
-/
import Derived.Test.YtegghimjmbgghaaGreatKit
import Derived.Deep.RegionLawGrows
import Derived.Deep.RegionHeld3
set_option linter.unusedSimpArgs false
set_option linter.unusedVariables false
namespace Go.Proofs.YtegghimjmbgghaaGreat
open Go.RowKit

theorem add_at (b off j : Nat) : (⟨b, off, none⟩ : Addr).add j = ⟨b, off + j, none⟩ := by
  unfold Addr.add
  split
  · rename_i h; subst h; rfl
  · rfl
theorem below_of_grown {w w' : World} (h : w.grownBy w' none) : Below w.heap.size w w' := ⟨h.os, h.tape, h.output, h.size, fun k hk => h.block k hk (by simp)⟩

theorem own_slice2 {w : World} {base e size n : Nat} {v : Value} {xs : List Value} (h : w.ownsRow base e size v n xs) : ∃ A c, v = .slice A n c ∧ Rd w A xs ∧ n ≤ c ∧ c ≤ maxLen ∧ (A = none → c = 0) := by
  obtain ⟨A, c, hv, hr, -⟩ := own_slice h
  refine ⟨A, c, hv, hr, ?_⟩
  rcases h.2 with ⟨h1, h2⟩ | ⟨g, cap, cur, h1, hb, hh, hnc, hcap, -⟩
  · rw [hv] at h1; injection h1 with e1 e2 e3; subst e1 e3; simp [h2]
  · rw [hv] at h1; injection h1 with e1 e2 e3; subst e1 e3; exact ⟨hnc, hcap, fun h => by cases h⟩

theorem run_app_zero {P : Program} (w : World) (t ty e : TypeId) (i : TypeInfo) (ht : P.underlying t = some (.slice e)) (hi : P.info? e = some i) (A : Option Addr) (n c : Nat) (hnc : n ≤ c) (p : Option Addr) (c2 : Nat) :
    (Builtin.append_ #[t, t] ty #[.slice A n c, .slice p 0 c2]).run P w = .ok (.slice A n c) w := by
  cases A <;> cases p <;> simp [Builtin.append_, run_underlying ht, sizeOf, typeInfo, hi, Builtin.lenOf, Builtin.firstCells, hnc, storeCells, loadCells, loadCellsFrom]

theorem step_app {P : Program} {ops : Array Oper} {o : Oper} {a : Act} {w : World} {K : Act → World → Prop} {Q : Exit → Act → World → Prop} {E : Prop}
    (hg : o.guard = none) (s x : Operand) (t : TypeId) (hop : o.op = Op.call { callee := Callee.builtin Builtin.append, args := #[s, x], argTypes := #[t, t] })
    (e : TypeId) (i : TypeInfo) (z : Value) (size bytes : Nat) (h1 : P.underlying t = some (.slice e)) (h2 : P.info? e = some i) (h3 : i.zero = some z) (h4 : i.size = size) (h5 : i.bytes = bytes) (h6 : z.cells.size = size) (h7 : 0 < size)
    (A : Option Addr) (n c : Nat) (xs : List Value) (hs : a.eval s = .slice A n c) (hA : Rd w A xs) (hxl : xs.length = n * size) (hnone : A = none → c = 0) (hnc : n ≤ c) (hcm : c ≤ maxLen)
    (A2 : Option Addr) (m c2 : Nat) (ys : List Value) (hx : a.eval x = .slice A2 m c2) (hA2 : Rd w A2 ys) (hyl : ys.length = m * size) (h1c : ∀ u ∈ ys, u.oneCell' = true)
    (hfull : m = 0 ∨ c < n + m) (b1 : n + m ≤ maxLen) (b2 : (n + m) * bytes ≤ 140737488355328)
    (hK : ∀ A' c' w', Rd w' A' (xs ++ ys) → n + m ≤ c' → c' ≤ maxLen → (A' = none → c' = 0) → w.grownBy w' none → K (a.put o.dst (.slice A' (n + m) c')) w') :
    if Region.wanted o (yielded ops a.tmps) = true then Oper.wp P o a w K Q else E := by
  by_cases hm : m = 0
  · subst hm
    have hy : ys = [] := List.eq_nil_of_length_eq_zero (by simpa using hyl)
    subst hy
    have hw : Region.wanted o (yielded ops a.tmps) = true := by simp [Region.wanted, hg]
    rw [if_pos hw]
    have hrun := run_app_zero (P := P) w t o.type e i h1 h2 A n c hnc A2 c2
    unfold Oper.wp
    simp [execOp, hop, resolve, invoke, builtin, hs, hx, hrun, Result.andThen]
    exact hK A c w (by simpa using hA) hnc hcm hnone (World.grownBy.refl w none)
  · have hyne : ys ≠ [] := by
      intro e
      have hp := Nat.mul_pos (Nat.pos_of_ne_zero hm) h7
      rw [← hyl, e] at hp
      simp at hp
    obtain ⟨b2', off2, rfl, hb2, hc2⟩ := hA2 hyne
    refine step_append_grows hg s x t hop e i z size bytes h1 h2 h3 h4 h5 h6 h7 A n c xs hs (fun h => ⟨by have := hnone h; omega, hnone h⟩) hxl (fun ad had j u hu => ?_)
      ⟨b2', off2, none⟩ m c2 ys hx hyl (fun j u hu => by rw [add_at]; exact hc2 j u hu) h1c (by omega) b1 b2 (fun v' w' hown hgr => ?_)
    · have hxne : xs ≠ [] := by rintro rfl; simp at hu
      obtain ⟨b, off, hA', hb, hc⟩ := hA hxne
      rw [had] at hA'
      injection hA' with hA'
      subst hA'
      rw [add_at]; exact hc j u hu
    · obtain ⟨A', c', rfl, hr, h8, h9, h10⟩ := own_slice2 hown
      exact hK A' c' w' hr h8 h9 h10 hgr

/-- A cut at the front of what a slice reads as. -/
theorem Rd.cut {w : World} {A : Option Addr} {xs : List Value} (h : Rd w A xs) (k size cap : Nat) (hk : k * size < xs.length → cap ≠ k) : Rd w (if cap = k then A else A.map (·.add (k * size))) (xs.drop (k * size)) := by
  intro hne
  have hlt : k * size < xs.length := by
    rcases Nat.lt_or_ge (k * size) xs.length with h' | h'
    · exact h'
    · exact absurd (List.drop_eq_nil_of_le h') hne
  rw [if_neg (hk hlt)]
  have hxne : xs ≠ [] := by rintro rfl; simp at hlt
  obtain ⟨b, off, rfl, hb, hc⟩ := h hxne
  refine ⟨b, off + k * size, by simp [add_at], hb, fun j u hu => ?_⟩
  rw [List.getElem?_drop] at hu
  rw [Nat.add_assoc]; exact hc _ u hu
theorem Rd.take {w : World} {A : Option Addr} {xs : List Value} (h : Rd w A xs) (k : Nat) : Rd w A (xs.take k) := by
  intro hne
  have hxne : xs ≠ [] := by rintro rfl; simp at hne
  obtain ⟨b, off, rfl, hb, hc⟩ := h hxne
  refine ⟨b, off, rfl, hb, fun j u hu => hc j u ?_⟩
  rcases Nat.lt_or_ge j k with h' | h'
  · rwa [List.getElem?_take_of_lt h'] at hu
  · rw [List.getElem?_eq_none (by simp; omega)] at hu; cases hu

theorem rdNew (w : World) (cs : List Value) (t : TypeId) : Rd ((w.alloc (.cells cs.toArray t)).drew) (some ⟨w.heap.size, 0, none⟩) cs := fun _ => by
  refine ⟨w.heap.size, 0, rfl, by simp, fun j u hu => ?_⟩
  rw [World.cell?_drew, Nat.zero_add, World.cell?_alloc_new]
  simpa using hu

end Go.Proofs.YtegghimjmbgghaaGreat
