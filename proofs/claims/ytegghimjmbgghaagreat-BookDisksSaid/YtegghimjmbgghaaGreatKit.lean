/-
  Small words for memory, over any program: a list of cells that a slice reads as, and how it is kept while the world grows.
-/
import Derived.WalkKit
import Derived.WalkSpells
import Derived.WalkLawsBesides
import Derived.BigQuiet
import Derived.Deep.QuietTactic
import Derived.Deep.Draws
import Derived.Deep.Light
import Derived.Deep.LoopGhost
import Derived.Deep.Cut
import Derived.Deep.DeepFit
import Derived.Deep.DeepMust
set_option linter.unusedSimpArgs false
set_option linter.unusedVariables false

namespace Go.Proofs.YtegghimjmbgghaaGreat
open Go.RowKit

theorem hid {p : Prop} (h : p) : Hid p := h
theorem unhid {p : Prop} (h : Hid p) : p := h

/-- The slice at address A reads as the cells xs. -/
def Rd (w : World) (A : Option Addr) (xs : List Value) : Prop :=
  xs ≠ [] → ∃ b off, A = some ⟨b, off, none⟩ ∧ b < w.heap.size ∧ ∀ j u, xs[j]? = some u → w.cell? ⟨b, off + j, none⟩ = some u

theorem Rd.nil (w : World) (A : Option Addr) : Rd w A [] := fun h => absurd rfl h

theorem Rd.below {w w' : World} {A : Option Addr} {xs : List Value} (h : Rd w A xs) (hb : Below w.heap.size w w') : Rd w' A xs := fun hx => by
  obtain ⟨b, off, hA, hlt, hc⟩ := h hx
  refine ⟨b, off, hA, Nat.lt_of_lt_of_le hlt hb.size, fun j u hu => ?_⟩
  rw [hb.cell (p := ⟨b, off + j, none⟩) hlt]; exact hc j u hu

theorem Rd.alloc {w : World} {A : Option Addr} {xs : List Value} (h : Rd w A xs) (o : Obj) : Rd (w.alloc o) A xs :=
  h.below ((Below.refl _ _).alloc (Nat.le_refl _) o)

theorem below_alloc (w : World) (o : Obj) : Below w.heap.size w (w.alloc o) := (Below.refl _ _).alloc (Nat.le_refl _) o
theorem below_drewN' {B : Nat} {a w : World} (h : Below B a w) (n : Nat) : Below B a (w.drewN n) := ⟨h.os, h.tape, h.output, h.size, h.block⟩
theorem below_alloc' {w w' : World} (h : Below w.heap.size w w') (o : Obj) : Below w.heap.size w (w'.alloc o) := h.alloc h.size o
theorem below_trans {w w1 w2 : World} (h : Below w.heap.size w w1) (k : Below w1.heap.size w1 w2) : Below w.heap.size w w2 := h.trans (k.mono h.size)

theorem retb {a b : Bool} (h : a = true ↔ b = true) : Ending.returned (.bool a) = .returned (.bool b) := by rw [Bool.eq_iff_iff.2 h]
theorem reti {k : IntKind} {a b : Int} (h : a = b) : Ending.returned (.int k a) = .returned (.int k b) := by rw [h]

/-- A number that fits into 64 bits. -/
def I64 (n : Int) : Prop := -9223372036854775808 ≤ n ∧ n ≤ 9223372036854775807

/-- A list of numbers. -/
def ints (l : List Int) : List Value := l.map (Value.int .i64)
@[simp] theorem length_ints (l : List Int) : (ints l).length = l.length := by simp [ints]
theorem ints_at (l : List Int) (k : Nat) (h : k < l.length) : (ints l)[k]? = some (.int .i64 l[k]) := by simp [ints, h]
theorem ints_ne {l : List Int} {k : Nat} (h : k < l.length) : ints l ≠ [] := by
  intro e; have := congrArg List.length e; simp at this; subst this; simp at h

theorem flat_len {α : Type} {f : α → List Value} {K : Nat} (hK : ∀ x, (f x).length = K) (l : List α) : (l.flatMap f).length = l.length * K := by
  induction l with
  | nil => simp
  | cons x l ih => simp only [List.flatMap_cons, List.length_append, hK, ih, List.length_cons, Nat.succ_mul]; omega
theorem flat_at {α : Type} {f : α → List Value} {K : Nat} (hK : ∀ x, (f x).length = K) (l : List α) (k j : Nat) (hk : k < l.length) (hj : j < K) : (l.flatMap f)[k * K + j]? = (f l[k])[j]? := by
  induction l generalizing k with
  | nil => simp at hk
  | cons x l ih =>
    rw [List.flatMap_cons]
    cases k with
    | zero => rw [List.getElem?_append_left (by rw [hK]; omega)]; simp
    | succ k =>
      rw [List.getElem?_append_right (by rw [hK, Nat.succ_mul]; omega), hK, show (k + 1) * K + j - K = k * K + j by rw [Nat.succ_mul]; omega]
      simpa using ih k (by simpa using hk)
theorem flat_ne {α : Type} {f : α → List Value} {K : Nat} (hK : ∀ x, (f x).length = K) (h0 : 0 < K) {l : List α} {k : Nat} (hk : k < l.length) : l.flatMap f ≠ [] := by
  intro e
  have h := congrArg List.length e
  rw [flat_len hK] at h
  have : 0 < l.length * K := Nat.mul_pos (by omega) h0
  simp at h
  omega

/-- What holds of the first k elements of a list. -/
def Upto {α : Type} (l : List α) (k : Nat) (P : α → Prop) : Prop := ∀ x ∈ l.take k, P x
theorem Upto.zero {α : Type} {l : List α} {P : α → Prop} : Upto l 0 P := fun x hx => by simp at hx
theorem Upto.next {α : Type} {l : List α} {P : α → Prop} {k : Nat} (h : Upto l k P) (hk : k < l.length) (hp : P l[k]) : Upto l (k + 1) P := by
  intro x hx
  rw [List.take_succ_eq_append_getElem hk] at hx
  rcases List.mem_append.1 hx with hx | hx
  · exact h x hx
  · simp at hx; rw [hx]; exact hp
theorem Upto.all {α : Type} {l : List α} {P : α → Prop} {k : Nat} (h : Upto l k P) (hk : l.length ≤ k) : ∀ x ∈ l, P x := fun x hx => h x (by rw [List.take_of_length_le hk]; exact hx)

theorem nd_rev {α : Type} (f : α → Int) (l : List α) {k : Nat} (hk : k < l.length) : ((l.take (k + 1)).map f).reverse = f l[k] :: ((l.take k).map f).reverse := by
  rw [List.take_succ_eq_append_getElem hk, List.map_append, List.reverse_append]; rfl
theorem nd_no {α : Type} {f : α → Int} {l : List α} {k : Nat} (hk : k < l.length) (h : f l[k] ∈ ((l.take k).map f).reverse) : ¬ (l.map f).Nodup := by
  intro hn
  have h1 : l = l.take k ++ l[k] :: l.drop (k + 1) := by rw [List.getElem_cons_drop]; simp
  rw [h1, List.map_append, List.nodup_append] at hn
  exact hn.2.2 _ (List.mem_reverse.1 h) (f l[k]) (by rw [List.map_cons]; exact List.mem_cons_self) rfl
theorem nd_next {α : Type} {f : α → Int} {l : List α} {k : Nat} (hk : k < l.length) (hn : ((l.take k).map f).Nodup) (h : f l[k] ∉ ((l.take k).map f).reverse) : ((l.take (k + 1)).map f).Nodup := by
  rw [List.take_succ_eq_append_getElem hk, List.map_append, List.nodup_append]
  refine ⟨hn, by simp, fun a ha b hb => ?_⟩
  simp only [List.map_cons, List.map_nil, List.mem_singleton] at hb
  subst hb
  intro e; subst e
  exact h (List.mem_reverse.2 ha)

theorem nd_ne {α : Type} {f : α → Int} {l : List α} {i k : Nat} (hk : k < l.length) (hi : i < k) (hn : (l.map f).Nodup) : f (l[i]'(by omega)) ≠ f l[k] := fun e =>
  nd_no (f := f) hk (List.mem_reverse.2 (List.mem_map.2 ⟨l[i]'(by omega), List.mem_take_iff_getElem.2 ⟨i, by omega, rfl⟩, e⟩)) hn

theorem own_ne {w : World} {base e size n : Nat} {v : Value} {xs : List Value} (h : w.ownsRow base e size v n xs) {g : Nat} (hg : g < base ∨ w.heap.size ≤ g) : v.ownBlock ≠ some g := by
  rcases h.2 with ⟨rfl, _⟩ | ⟨g', cap, cur, rfl, hb, hh, _⟩
  · simp [Value.ownBlock]
  · intro he
    have : g' = g := by simpa [Value.ownBlock] using he
    subst this
    have : g' < w.heap.size := (Array.getElem?_eq_some_iff.1 hh).1
    omega

theorem own_slice {w : World} {base e size n : Nat} {v : Value} {xs : List Value} (h : w.ownsRow base e size v n xs) : ∃ A c, v = .slice A n c ∧ Rd w A xs ∧ (∀ g, v.ownBlock = some g → base ≤ g) := by
  obtain ⟨hlen, hf⟩ := h
  rcases hf with ⟨rfl, rfl⟩ | ⟨g, cap, cur, rfl, hb, hh, hnc, hcap, hcs, htk⟩
  · have : xs = [] := List.eq_nil_of_length_eq_zero (by omega)
    subst this
    exact ⟨none, 0, rfl, Rd.nil _ _, fun g hg => by simp [Value.ownBlock] at hg⟩
  · refine ⟨_, cap, rfl, fun _ => ⟨g, 0, rfl, (Array.getElem?_eq_some_iff.1 hh).1, fun j u hu => ?_⟩, fun g' hg => by simp [Value.ownBlock] at hg; omega⟩
    rw [Nat.zero_add, cell_of_row w g j cur e (0, 0) hh, ← Array.getElem?_toList]
    rw [← htk] at hu
    rcases Nat.lt_or_ge j (n * size) with h | h
    · rwa [List.getElem?_take_of_lt h] at hu
    · rw [List.getElem?_eq_none (by simp; omega)] at hu; cases hu

end Go.Proofs.YtegghimjmbgghaaGreat
