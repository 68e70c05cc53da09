/-
  Small words for memory, over any program: a list of cells that a slice reads as, and how it is kept while the world grows. A region that draws its order, whose operations only read, and whose callees read, draw and lay blocks of their own: one walk in the order of the text. The worlds: those in which nothing that was there has turned. append as a step of a region, where the result lies in a new array or nothing is appended: nothing that was there has turned. Faces in memory: the cells of an item, of a list of items; what is known of a face that came in or was made. The smallest functions of package face and of its reference: their contracts. A region that draws its order, under a condition on the world that may fail behind the region's last operation, which waits for all others: an append to a variable that the region itself loads. More rules for a region that draws its order: two operations may come up; one that is not wanted is passed over. The reference's Dec: a number in decimal digits; its names of shapes and colours. The arguments opened: what a slice of numbers, of spans, of signs, of edicts, a line, an ask that came in reads as. The arguments opened: a face, a sheet of lines, a text that came in.
-/
import Derived.WalkKit
import Derived.WalkSpells
import Derived.WalkLawsBesides
import Derived.BigQuiet
import Derived.Deep.QuietTactic
import Derived.Deep.Draws
import Derived.Deep.Light
import Derived.Deep.LoopGhost
import Derived.Deep.Cut
import Derived.Deep.DeepFit
import Derived.Deep.DeepMust
import Derived.Deep.RegionLawGrows
import Derived.Deep.RegionHeld3
import Derived.Test.YtfklckjfbnaoeaaGreatDoorProg
import Derived.Test.YtfklckjfbnaoeaaGreatDoorWaP
import Derived.Deep.AppendLies
import Derived.StillTailTactics
import Derived.Deep.DeepCutAuto
import Derived.Laws.Tables
import Derived.SizedLaws
import Derived.Deep.Slices
import Derived.Deep.Fields
import Derived.ChangeSame
set_option linter.unusedSimpArgs false
set_option linter.unusedVariables false
namespace Go.Proofs.YtfklckjfbnaoeaaGreatDoor

section
open Go.RowKit

theorem hid {p : Prop} (h : p) : Hid p := h
theorem unhid {p : Prop} (h : Hid p) : p := h

/-- The slice at address A reads as the cells xs. -/
def Rd (w : World) (A : Option Addr) (xs : List Value) : Prop :=
  xs ≠ [] → ∃ b off, A = some ⟨b, off, none⟩ ∧ b < w.heap.size ∧ ∀ j u, xs[j]? = some u → w.cell? ⟨b, off + j, none⟩ = some u

theorem Rd.nil (w : World) (A : Option Addr) : Rd w A [] := fun h => absurd rfl h

theorem Rd.below {w w' : World} {A : Option Addr} {xs : List Value} (h : Rd w A xs) (hb : Below w.heap.size w w') : Rd w' A xs := fun hx => by
  obtain ⟨b, off, hA, hlt, hc⟩ := h hx
  refine ⟨b, off, hA, Nat.lt_of_lt_of_le hlt hb.size, fun j u hu => ?_⟩
  rw [hb.cell (p := ⟨b, off + j, none⟩) hlt]; exact hc j u hu

theorem Rd.alloc {w : World} {A : Option Addr} {xs : List Value} (h : Rd w A xs) (o : Obj) : Rd (w.alloc o) A xs :=
  h.below ((Below.refl _ _).alloc (Nat.le_refl _) o)

theorem below_alloc (w : World) (o : Obj) : Below w.heap.size w (w.alloc o) := (Below.refl _ _).alloc (Nat.le_refl _) o
theorem below_drewN' {B : Nat} {a w : World} (h : Below B a w) (n : Nat) : Below B a (w.drewN n) := ⟨h.os, h.tape, h.output, h.size, h.block⟩
theorem below_alloc' {w w' : World} (h : Below w.heap.size w w') (o : Obj) : Below w.heap.size w (w'.alloc o) := h.alloc h.size o
theorem below_trans {w w1 w2 : World} (h : Below w.heap.size w w1) (k : Below w1.heap.size w1 w2) : Below w.heap.size w w2 := h.trans (k.mono h.size)

theorem retb {a b : Bool} (h : a = true ↔ b = true) : Ending.returned (.bool a) = .returned (.bool b) := by rw [Bool.eq_iff_iff.2 h]
theorem reti {k : IntKind} {a b : Int} (h : a = b) : Ending.returned (.int k a) = .returned (.int k b) := by rw [h]

/-- A number that fits into 64 bits. -/
def I64 (n : Int) : Prop := -9223372036854775808 ≤ n ∧ n ≤ 9223372036854775807

/-- A list of numbers. -/
def ints (l : List Int) : List Value := l.map (Value.int .i64)
@[simp] theorem length_ints (l : List Int) : (ints l).length = l.length := by simp [ints]
theorem ints_at (l : List Int) (k : Nat) (h : k < l.length) : (ints l)[k]? = some (.int .i64 l[k]) := by simp [ints, h]
theorem ints_ne {l : List Int} {k : Nat} (h : k < l.length) : ints l ≠ [] := by
  intro e; have := congrArg List.length e; simp at this; subst this; simp at h

theorem flat_len {α : Type} {f : α → List Value} {K : Nat} (hK : ∀ x, (f x).length = K) (l : List α) : (l.flatMap f).length = l.length * K := by
  induction l with
  | nil => simp
  | cons x l ih => simp only [List.flatMap_cons, List.length_append, hK, ih, List.length_cons, Nat.succ_mul]; omega
theorem flat_at {α : Type} {f : α → List Value} {K : Nat} (hK : ∀ x, (f x).length = K) (l : List α) (k j : Nat) (hk : k < l.length) (hj : j < K) : (l.flatMap f)[k * K + j]? = (f l[k])[j]? := by
  induction l generalizing k with
  | nil => simp at hk
  | cons x l ih =>
    rw [List.flatMap_cons]
    cases k with
    | zero => rw [List.getElem?_append_left (by rw [hK]; omega)]; simp
    | succ k =>
      rw [List.getElem?_append_right (by rw [hK, Nat.succ_mul]; omega), hK, show (k + 1) * K + j - K = k * K + j by rw [Nat.succ_mul]; omega]
      simpa using ih k (by simpa using hk)
theorem flat_ne {α : Type} {f : α → List Value} {K : Nat} (hK : ∀ x, (f x).length = K) (h0 : 0 < K) {l : List α} {k : Nat} (hk : k < l.length) : l.flatMap f ≠ [] := by
  intro e
  have h := congrArg List.length e
  rw [flat_len hK] at h
  have : 0 < l.length * K := Nat.mul_pos (by omega) h0
  simp at h
  omega

/-- What holds of the first k elements of a list. -/
def Upto {α : Type} (l : List α) (k : Nat) (P : α → Prop) : Prop := ∀ x ∈ l.take k, P x
theorem Upto.zero {α : Type} {l : List α} {P : α → Prop} : Upto l 0 P := fun x hx => by simp at hx
theorem Upto.next {α : Type} {l : List α} {P : α → Prop} {k : Nat} (h : Upto l k P) (hk : k < l.length) (hp : P l[k]) : Upto l (k + 1) P := by
  intro x hx
  rw [List.take_succ_eq_append_getElem hk] at hx
  rcases List.mem_append.1 hx with hx | hx
  · exact h x hx
  · simp at hx; rw [hx]; exact hp
theorem Upto.all {α : Type} {l : List α} {P : α → Prop} {k : Nat} (h : Upto l k P) (hk : l.length ≤ k) : ∀ x ∈ l, P x := fun x hx => h x (by rw [List.take_of_length_le hk]; exact hx)

theorem nd_rev {α : Type} (f : α → Int) (l : List α) {k : Nat} (hk : k < l.length) : ((l.take (k + 1)).map f).reverse = f l[k] :: ((l.take k).map f).reverse := by
  rw [List.take_succ_eq_append_getElem hk, List.map_append, List.reverse_append]; rfl
theorem nd_no {α : Type} {f : α → Int} {l : List α} {k : Nat} (hk : k < l.length) (h : f l[k] ∈ ((l.take k).map f).reverse) : ¬ (l.map f).Nodup := by
  intro hn
  have h1 : l = l.take k ++ l[k] :: l.drop (k + 1) := by rw [List.getElem_cons_drop]; simp
  rw [h1, List.map_append, List.nodup_append] at hn
  exact hn.2.2 _ (List.mem_reverse.1 h) (f l[k]) (by rw [List.map_cons]; exact List.mem_cons_self) rfl
theorem nd_next {α : Type} {f : α → Int} {l : List α} {k : Nat} (hk : k < l.length) (hn : ((l.take k).map f).Nodup) (h : f l[k] ∉ ((l.take k).map f).reverse) : ((l.take (k + 1)).map f).Nodup := by
  rw [List.take_succ_eq_append_getElem hk, List.map_append, List.nodup_append]
  refine ⟨hn, by simp, fun a ha b hb => ?_⟩
  simp only [List.map_cons, List.map_nil, List.mem_singleton] at hb
  subst hb
  intro e; subst e
  exact h (List.mem_reverse.2 ha)

theorem nd_ne {α : Type} {f : α → Int} {l : List α} {i k : Nat} (hk : k < l.length) (hi : i < k) (hn : (l.map f).Nodup) : f (l[i]'(by omega)) ≠ f l[k] := fun e =>
  nd_no (f := f) hk (List.mem_reverse.2 (List.mem_map.2 ⟨l[i]'(by omega), List.mem_take_iff_getElem.2 ⟨i, by omega, rfl⟩, e⟩)) hn

theorem own_ne {w : World} {base e size n : Nat} {v : Value} {xs : List Value} (h : w.ownsRow base e size v n xs) {g : Nat} (hg : g < base ∨ w.heap.size ≤ g) : v.ownBlock ≠ some g := by
  rcases h.2 with ⟨rfl, _⟩ | ⟨g', cap, cur, rfl, hb, hh, _⟩
  · simp [Value.ownBlock]
  · intro he
    have : g' = g := by simpa [Value.ownBlock] using he
    subst this
    have : g' < w.heap.size := (Array.getElem?_eq_some_iff.1 hh).1
    omega

theorem own_slice {w : World} {base e size n : Nat} {v : Value} {xs : List Value} (h : w.ownsRow base e size v n xs) : ∃ A c, v = .slice A n c ∧ Rd w A xs ∧ (∀ g, v.ownBlock = some g → base ≤ g) := by
  obtain ⟨hlen, hf⟩ := h
  rcases hf with ⟨rfl, rfl⟩ | ⟨g, cap, cur, rfl, hb, hh, hnc, hcap, hcs, htk⟩
  · have : xs = [] := List.eq_nil_of_length_eq_zero (by omega)
    subst this
    exact ⟨none, 0, rfl, Rd.nil _ _, fun g hg => by simp [Value.ownBlock] at hg⟩
  · refine ⟨_, cap, rfl, fun _ => ⟨g, 0, rfl, (Array.getElem?_eq_some_iff.1 hh).1, fun j u hu => ?_⟩, fun g' hg => by simp [Value.ownBlock] at hg; omega⟩
    rw [Nat.zero_add, cell_of_row w g j cur e (0, 0) hh, ← Array.getElem?_toList]
    rw [← htk] at hu
    rcases Nat.lt_or_ge j (n * size) with h | h
    · rwa [List.getElem?_take_of_lt h] at hu
    · rw [List.getElem?_eq_none (by simp; omega)] at hu; cases hu
end

section
open Go.RowKit

/-- A world in which nothing of W has turned. -/
structure After (W : World) where
  w : World
  below : Below W.heap.size W w

instance (W : World) : Inhabited (After W) := ⟨⟨W, Below.refl _ _⟩⟩

theorem wp_region_below {P : Program} {id : Nat} {Q : Exit → Act → World → Prop} {a : Act} {w : World} {l : List Oper} (hm : P.follows .mixedOrders = true) (hB : Region.lexB .any l.toArray = true)
    (h : wpQuiet P l.toArray (fun w' => ∃ p : After w, w' = p.w) (fun a' => ∀ w', (∃ p : After w, w' = p.w) → Q .normal a' w') l a) : (Code.region id l.toArray true).wp P Q a w :=
  wp_region_quiet (C := fun w' => ∃ p : After w, w' = p.w) hm hB ⟨⟨w.drew, Below.drew (Below.refl _ _)⟩, rfl⟩ (by simpa using h)

theorem After.cell {W : World} {a : Addr} {v : Value} (hb : a.block < W.heap.size) (h : W.cell? a = some v) (p : After W) : p.w.cell? a = some v := by
  rw [p.below.cell (p := a) hb]; exact h

theorem Calls.after_of {P : Program} {f : FuncId} {args : Array Value} {W : World} {p : After W} {v : Value}
    (h : Calls P f args p.w fun e w' => e = .returned v ∧ Below p.w.heap.size p.w w') : Calls P f args p.w fun e w'' => e = .returned v ∧ ∃ q : After W, w'' = q.w :=
  h.mono fun _ w' ⟨he, hb⟩ => ⟨he, ⟨w', p.below.trans (hb.mono p.below.size)⟩, rfl⟩
theorem Calls.after_same {P : Program} {f : FuncId} {args : Array Value} {W : World} {p : After W} {v : Value}
    (h : Calls P f args p.w fun e w' => e = .returned v ∧ p.w = w') : Calls P f args p.w fun e w'' => e = .returned v ∧ ∃ q : After W, w'' = q.w :=
  h.mono fun _ _ ⟨he, hw⟩ => ⟨he, p, hw.symm⟩
theorem Calls.after_eq {P : Program} {f : FuncId} {args : Array Value} {W : World} {p : After W} {v : Value} {o : Obj}
    (h : Calls P f args p.w fun e w' => e = .returned v ∧ w' = p.w.alloc o) : Calls P f args p.w fun e w'' => e = .returned v ∧ ∃ q : After W, w'' = q.w :=
  Calls.after_of (h.mono fun _ _ ⟨he, hw⟩ => ⟨he, hw ▸ below_alloc _ _⟩)
theorem Calls.after_drew {P : Program} {f : FuncId} {args : Array Value} {W : World} {p : After W} {v : Value}
    (h : Calls P f args p.w fun e w' => e = .returned v ∧ ∃ n, w' = p.w.drewN n) : Calls P f args p.w fun e w'' => e = .returned v ∧ ∃ q : After W, w'' = q.w :=
  Calls.after_of (h.mono fun _ _ ⟨he, n, hw⟩ => ⟨he, hw ▸ below_drewN' (Below.refl _ _) n⟩)
end

section
open Go.RowKit

theorem add_at (b off j : Nat) : (⟨b, off, none⟩ : Addr).add j = ⟨b, off + j, none⟩ := by
  unfold Addr.add
  split
  · rename_i h; subst h; rfl
  · rfl
theorem below_of_grown {w w' : World} (h : w.grownBy w' none) : Below w.heap.size w w' := ⟨h.os, h.tape, h.output, h.size, fun k hk => h.block k hk (by simp)⟩

theorem own_slice2 {w : World} {base e size n : Nat} {v : Value} {xs : List Value} (h : w.ownsRow base e size v n xs) : ∃ A c, v = .slice A n c ∧ Rd w A xs ∧ n ≤ c ∧ c ≤ maxLen ∧ (A = none → c = 0) := by
  obtain ⟨A, c, hv, hr, -⟩ := own_slice h
  refine ⟨A, c, hv, hr, ?_⟩
  rcases h.2 with ⟨h1, h2⟩ | ⟨g, cap, cur, h1, hb, hh, hnc, hcap, -⟩
  · rw [hv] at h1; injection h1 with e1 e2 e3; subst e1 e3; simp [h2]
  · rw [hv] at h1; injection h1 with e1 e2 e3; subst e1 e3; exact ⟨hnc, hcap, fun h => by cases h⟩

theorem run_app_zero {P : Program} (w : World) (t ty e : TypeId) (i : TypeInfo) (ht : P.underlying t = some (.slice e)) (hi : P.info? e = some i) (A : Option Addr) (n c : Nat) (hnc : n ≤ c) (p : Option Addr) (c2 : Nat) :
    (Builtin.append_ #[t, t] ty #[.slice A n c, .slice p 0 c2]).run P w = .ok (.slice A n c) w := by
  cases A <;> cases p <;> simp [Builtin.append_, run_underlying ht, sizeOf, typeInfo, hi, Builtin.lenOf, Builtin.firstCells, hnc, storeCells, loadCells, loadCellsFrom]

theorem step_app {P : Program} {ops : Array Oper} {o : Oper} {a : Act} {w : World} {K : Act → World → Prop} {Q : Exit → Act → World → Prop} {E : Prop}
    (hg : o.guard = none) (s x : Operand) (t : TypeId) (hop : o.op = Op.call { callee := Callee.builtin Builtin.append, args := #[s, x], argTypes := #[t, t] })
    (e : TypeId) (i : TypeInfo) (z : Value) (size bytes : Nat) (h1 : P.underlying t = some (.slice e)) (h2 : P.info? e = some i) (h3 : i.zero = some z) (h4 : i.size = size) (h5 : i.bytes = bytes) (h6 : z.cells.size = size) (h7 : 0 < size)
    (A : Option Addr) (n c : Nat) (xs : List Value) (hs : a.eval s = .slice A n c) (hA : Rd w A xs) (hxl : xs.length = n * size) (hnone : A = none → c = 0) (hnc : n ≤ c) (hcm : c ≤ maxLen)
    (A2 : Option Addr) (m c2 : Nat) (ys : List Value) (hx : a.eval x = .slice A2 m c2) (hA2 : Rd w A2 ys) (hyl : ys.length = m * size) (h1c : ∀ u ∈ ys, u.oneCell' = true)
    (hfull : m = 0 ∨ c < n + m) (b1 : n + m ≤ maxLen) (b2 : (n + m) * bytes ≤ 140737488355328)
    (hK : ∀ A' c' w', Rd w' A' (xs ++ ys) → n + m ≤ c' → c' ≤ maxLen → (A' = none → c' = 0) → w.grownBy w' none → K (a.put o.dst (.slice A' (n + m) c')) w') :
    if Region.wanted o (yielded ops a.tmps) = true then Oper.wp P o a w K Q else E := by
  by_cases hm : m = 0
  · subst hm
    have hy : ys = [] := List.eq_nil_of_length_eq_zero (by simpa using hyl)
    subst hy
    have hw : Region.wanted o (yielded ops a.tmps) = true := by simp [Region.wanted, hg]
    rw [if_pos hw]
    have hrun := run_app_zero (P := P) w t o.type e i h1 h2 A n c hnc A2 c2
    unfold Oper.wp
    simp [execOp, hop, resolve, invoke, builtin, hs, hx, hrun, Result.andThen]
    exact hK A c w (by simpa using hA) hnc hcm hnone (World.grownBy.refl w none)
  · have hyne : ys ≠ [] := by
      intro e
      have hp := Nat.mul_pos (Nat.pos_of_ne_zero hm) h7
      rw [← hyl, e] at hp
      simp at hp
    obtain ⟨b2', off2, rfl, hb2, hc2⟩ := hA2 hyne
    refine step_append_grows hg s x t hop e i z size bytes h1 h2 h3 h4 h5 h6 h7 A n c xs hs (fun h => ⟨by have := hnone h; omega, hnone h⟩) hxl (fun ad had j u hu => ?_)
      ⟨b2', off2, none⟩ m c2 ys hx hyl (fun j u hu => by rw [add_at]; exact hc2 j u hu) h1c (by omega) b1 b2 (fun v' w' hown hgr => ?_)
    · have hxne : xs ≠ [] := by rintro rfl; simp at hu
      obtain ⟨b, off, hA', hb, hc⟩ := hA hxne
      rw [had] at hA'
      injection hA' with hA'
      subst hA'
      rw [add_at]; exact hc j u hu
    · obtain ⟨A', c', rfl, hr, h8, h9, h10⟩ := own_slice2 hown
      exact hK A' c' w' hr h8 h9 h10 hgr

/-- A cut at the front of what a slice reads as. -/
theorem Rd.cut {w : World} {A : Option Addr} {xs : List Value} (h : Rd w A xs) (k size cap : Nat) (hk : k * size < xs.length → cap ≠ k) : Rd w (if cap = k then A else A.map (·.add (k * size))) (xs.drop (k * size)) := by
  intro hne
  have hlt : k * size < xs.length := by
    rcases Nat.lt_or_ge (k * size) xs.length with h' | h'
    · exact h'
    · exact absurd (List.drop_eq_nil_of_le h') hne
  rw [if_neg (hk hlt)]
  have hxne : xs ≠ [] := by rintro rfl; simp at hlt
  obtain ⟨b, off, rfl, hb, hc⟩ := h hxne
  refine ⟨b, off + k * size, by simp [add_at], hb, fun j u hu => ?_⟩
  rw [List.getElem?_drop] at hu
  rw [Nat.add_assoc]; exact hc _ u hu
theorem Rd.take {w : World} {A : Option Addr} {xs : List Value} (h : Rd w A xs) (k : Nat) : Rd w A (xs.take k) := by
  intro hne
  have hxne : xs ≠ [] := by rintro rfl; simp at hne
  obtain ⟨b, off, rfl, hb, hc⟩ := h hxne
  refine ⟨b, off, rfl, hb, fun j u hu => hc j u ?_⟩
  rcases Nat.lt_or_ge j k with h' | h'
  · rwa [List.getElem?_take_of_lt h'] at hu
  · rw [List.getElem?_eq_none (by simp; omega)] at hu; cases hu

theorem rdNew (w : World) (cs : List Value) (t : TypeId) : Rd ((w.alloc (.cells cs.toArray t)).drew) (some ⟨w.heap.size, 0, none⟩) cs := fun _ => by
  refine ⟨w.heap.size, 0, rfl, by simp, fun j u hu => ?_⟩
  rw [World.cell?_drew, Nat.zero_add, World.cell?_alloc_new]
  simpa using hu
end

section
open Go.RowKit

theorem retE {a b : Bool} (h : b = a) : Ending.returned (.bool a) = .returned (.bool b) := by rw [h]
/-- The cells of an item. -/
def itC (x : It) : List Value := [.int .i64 x.kind, .int .i64 x.colour, .int .i64 x.left, .int .i64 x.low, .int .i64 x.a, .int .i64 x.b, .string (SB x.text)]
def its (l : List It) : List Value := l.flatMap itC
theorem its_ne {l : List It} {k : Nat} (h : k < l.length) : its l ≠ [] := flat_ne (f := itC) (K := 7) (fun _ => rfl) (by omega) h
theorem its_len (l : List It) : (its l).length = l.length * 7 := flat_len (f := itC) (fun _ => rfl) l
theorem its_cells {w : World} {b off : Nat} {l : List It} (h : ∀ j u, (its l)[j]? = some u → w.cell? ⟨b, off + j, none⟩ = some u) {k : Nat} (hk : k < l.length) :
    w.cell? ⟨b, off + k * 7, none⟩ = some (.int .i64 l[k].kind) ∧ w.cell? ⟨b, off + k * 7 + 1, none⟩ = some (.int .i64 l[k].colour) ∧ w.cell? ⟨b, off + k * 7 + 2, none⟩ = some (.int .i64 l[k].left) ∧
    w.cell? ⟨b, off + k * 7 + 3, none⟩ = some (.int .i64 l[k].low) ∧ w.cell? ⟨b, off + k * 7 + 4, none⟩ = some (.int .i64 l[k].a) ∧ w.cell? ⟨b, off + k * 7 + 5, none⟩ = some (.int .i64 l[k].b) ∧
    w.cell? ⟨b, off + k * 7 + 6, none⟩ = some (.string (SB l[k].text)) :=
  ⟨h _ _ (flat_at (f := itC) (K := 7) (fun _ => rfl) l k 0 hk (by omega)), h _ _ (flat_at (f := itC) (K := 7) (fun _ => rfl) l k 1 hk (by omega)), h _ _ (flat_at (f := itC) (K := 7) (fun _ => rfl) l k 2 hk (by omega)), h _ _ (flat_at (f := itC) (K := 7) (fun _ => rfl) l k 3 hk (by omega)), h _ _ (flat_at (f := itC) (K := 7) (fun _ => rfl) l k 4 hk (by omega)), h _ _ (flat_at (f := itC) (K := 7) (fun _ => rfl) l k 5 hk (by omega)), h _ _ (flat_at (f := itC) (K := 7) (fun _ => rfl) l k 6 hk (by omega))⟩

theorem SB_size (l : List UInt8) : (SB l).size = l.length := rfl
theorem SB_toList (l : List UInt8) : (SB l).toList = l := by
  rw [Lib.toList_data]; rfl
theorem SB_app (a b : List UInt8) : SB a ++ SB b = SB (a ++ b) := by
  apply ByteArray.ext
  simp [SB, ByteArray.data_append]
theorem SB_inj {a b : List UInt8} (h : SB a = SB b) : a = b := by
  have := congrArg (fun s : ByteArray => s.data.toList) h
  simpa [SB_data] using this

/-- A list of items that lies in memory. -/
structure ItsOk (w : World) (A : Option Addr) (l : List It) : Prop where
  n : l.length ≤ 2199023255552
  rd : Rd w A (its l)
  txt : ∀ x ∈ l, x.text.length ≤ 140737488355328
theorem ItsOk.below {w w' : World} {A : Option Addr} {l : List It} (h : ItsOk w A l) (hb : Below w.heap.size w w') : ItsOk w' A l := ⟨h.n, h.rd.below hb, h.txt⟩
theorem ItsOk.nil (w : World) (A : Option Addr) : ItsOk w A [] := ⟨by simp, Rd.nil _ _, by simp⟩

theorem block_set_same {w : World} {g : Nat} {cs : Array Value} {t : TypeId} (h : w.heap[g]? = some (.cells cs t (0, 0))) (i : Nat) (u : Value) : (w.setCell ⟨g, i, none⟩ u).heap[g]? = some (.cells (cs.setIfInBounds i u) t (0, 0)) := by
  simp [World.setCell, Array.getElem?_modify, h]
theorem block_set_other {w : World} {g k : Nat} (i : Nat) (u : Value) (h : k ≠ g) : (w.setCell ⟨g, i, none⟩ u).heap[k]? = w.heap[k]? := Below.heap_setCell _ _ _ _ h
theorem rdNew1 (w : World) (cs : List Value) (t : TypeId) : Rd (w.alloc (.cells cs.toArray t)) (some ⟨w.heap.size, 0, none⟩) cs := fun _ =>
  ⟨w.heap.size, 0, rfl, by simp, fun j u hu => by rw [Nat.zero_add, cell_of_row _ _ j _ _ _ (heap_alloc_new w (.cells cs.toArray t))]; simpa using hu⟩
end

section
open Go.RowKit

theorem within_calls (lo n hi : Int) (w : World) :
    Calls Tryz.prog 227 #[.int .i64 lo, .int .i64 n, .int .i64 hi] w fun e w' => e = .returned (.bool (decide (lo ≤ n ∧ n ≤ hi))) ∧ w = w' := by
  go_enter Tryz.func227, Tryz.ntmps227
  go_wp2
  all_goals (go_ret; exact ⟨retb (by simp; try omega), rfl⟩)
theorem abs_calls (n : Int) (w : World) (h1 : -1000000000 ≤ n) (h2 : n ≤ 1000000000) :
    Calls Tryz.prog 322 #[.int .i64 n] w fun e w' => e = .returned (.int .i64 (absI n)) ∧ w = w' := by
  go_enter Tryz.func322, Tryz.ntmps322
  go_wp2
  all_goals (go_ret; exact ⟨reti (by unfold absI; omega), rfl⟩)
theorem field_calls (u : Bool) (lo n : Int) (w : World) :
    Calls Tryz.prog 265 #[.bool u, .int .i64 lo, .int .i64 n] w fun e w' => e = .returned (.bool (useB u lo n)) ∧ w = w' := by
  cases u
  all_goals
    go_enter Tryz.func265, Tryz.ntmps265
    go_wp2_with (go_at_call 227; refine (within_calls _ _ _ _).mono ?_; rintro e w' ⟨rfl, rfl⟩)
    all_goals (go_ret; exact ⟨retb (by simp [useB]), rfl⟩)
end

section
open Go.RowKit

section
variable {P : Program} {l : List Oper} {Q : Exit → Act → World → Prop} {md : Region.Mode} {S : World → Prop} {s : Nat}

/-- Whatever order is picked from here on, and S holds behind every operation, as long as number s has not come up. -/
def wpAnyE (P : Program) (md : Region.Mode) (l : List Oper) (Q : Exit → Act → World → Prop) (S : World → Prop) (s : Nat) : Nat → Array Bool → Act → World → Prop
  | 0, listed, a, w => Region.ready md l.toArray listed = [] ∧ Q .normal a w
  | f + 1, listed, a, w =>
    (Region.ready md l.toArray listed = [] → Q .normal a w) ∧
    ∀ i ∈ Region.ready md l.toArray listed, wpOp P l.toArray Q i (fun a' w' => ((listed.setIfInBounds i true).getD s true = false → S w') ∧ wpAnyE P md l Q S s f (listed.setIfInBounds i true) a' w') a w

theorem wpAny_of_E : ∀ (f : Nat) (listed : Array Bool) (a : Act) (w : World), wpAnyE P md l Q S s f listed a w → wpAny P md l.toArray Q f listed a w
  | 0, _, _, _, h => h
  | f + 1, _, _, _, h => ⟨h.1, fun i hi => wpOp_mono (fun _ _ h' => wpAny_of_E f _ _ _ h'.2) (h.2 i hi)⟩

theorem wpAnyE_first {i : Nat} {oi : Oper} {v : Value} (hi : l.toArray[i]? = some oi) (hsel : ∀ (j : Nat) (o : Oper) cs b, l.toArray[j]? = some o → o.op ≠ .select cs b)
    (hs : Region.sinkB md l.toArray s = true) (hc : Region.chainB md l.toArray s = true) (hn : s < l.toArray.size) (his : i < s)
    (hQ : ∀ c a w, Q (.panic c) (a.put oi.dst v) w → Q (.panic c) a w) :
    ∀ (f : Nat) (listed : Array Bool) (a : Act) (w : World), HeadInv md l.toArray s listed →
      (∀ j oj, l.toArray[j]? = some oj → j ≠ i → listed.getD j true = false → (∀ e ∈ oj.after, Region.binds md e = true → e.on ≠ i) → oi.apart l.toArray oj = true) →
      i ∈ Region.ready md l.toArray listed → YieldsIf P l.toArray S oi v a → S w →
      wpAnyE P md l Q S s f (listed.setIfInBounds i true) (a.put oi.dst v) w → wpAnyE P md l Q S s (f + 1) listed a w := by
  intro f
  induction f with
  | zero =>
    intro listed a w _ _ hr hy hS H
    refine ⟨fun h => (by rw [h] at hr; cases hr), fun j hj => ?_⟩
    by_cases hji : j = i
    · subst hji; exact hy.wpOp hi hS ⟨fun _ => hS, H⟩
    · have := ready_mono hj hji
      rw [H.1] at this
      cases this
  | succ f ih =>
    intro listed a w inv hfree hr hy hS H
    refine ⟨fun h => (by rw [h] at hr; cases hr), fun j hj => ?_⟩
    by_cases hji : j = i
    · subst hji; exact hy.wpOp hi hS ⟨fun _ => hS, H⟩
    · have h1 := H.2 j (ready_mono hj hji)
      have hri := ready_mono hr (Ne.symm hji)
      have hun := (mem_ready.1 hr).1
      have hjs : j < s := by
        rcases Nat.lt_or_ge j s with h | h
        · exact h
        · exact absurd hj (tail_waits hs hc hn inv _ i rfl his hun j h)
      obtain ⟨hjun, oj, hoj, hall⟩ := mem_ready.1 hj
      have hnot : ∀ e ∈ oj.after, Region.binds md e = true → e.on ≠ i := fun e he hb heq => by
        have h2 := hall e he hb
        rw [heq, getD_both hun] at h2
        cases h2
      have h2 := wpOp_putIf hoj (hfree j oj hoj hji hjun hnot) (fun cs b => hsel i oi cs b hi) (fun cs b => hsel j oj cs b hoj) hQ hy h1
      have hls : ((listed.setIfInBounds i true).setIfInBounds j true).getD s true = false := by
        rw [getD_set_ne true (by omega), getD_set_ne true (by omega)]
        exact inv.tail s (Nat.le_refl _) hn
      refine wpOp_mono (fun a' w' h3 => ?_) h2
      have hS' := h3.2.1 hls
      refine ⟨fun _ => hS', ih (listed.setIfInBounds j true) a' w' (inv.set hj hjs) ?_ hri h3.1 hS' ?_⟩
      · intro k ok hk hki hkun hno
        refine hfree k ok hk hki ?_ hno
        by_cases hjk : j = k
        · subst hjk; exact hjun
        · rw [getD_set_ne true hjk] at hkun; exact hkun
      · rw [Array.setIfInBounds_comm _ _ hji]
        exact h3.2.2

/-- The same, where the walk keeps the list of what has come up by itself. -/
def WE (P : Program) (md : Region.Mode) (l : List Oper) (Q : Exit → Act → World → Prop) (S : World → Prop) (s f : Nat) (listed : Array Bool) (a : Act) (w : World) : Prop :=
  HeadInv md l.toArray s listed → wpAnyE P md l Q S s f listed a w

def tailOkB (md : Region.Mode) (l : List Oper) (s : Nat) : Bool :=
  Region.noSelect l.toArray && decide (s < l.toArray.size) && Region.sinkB md l.toArray s && Region.chainB md l.toArray s

theorem WE_take {i : Nat} {oi : Oper} {v : Value} {f : Nat} {listed : Array Bool} {a : Act} {w : World} (hi : l[i]? = some oi) (hT : tailOkB md l s = true) (his : i < s)
    (hf : Region.free md l.toArray listed i = true) (hr : (Region.ready md l.toArray listed).contains i = true)
    (hQ : ∀ c a w, Q (.panic c) (a.put oi.dst v) w → Q (.panic c) a w) (hw : Region.wanted oi (yielded l.toArray a.tmps) = true) (hS : S w)
    (hy : ∀ w, S w → (execOp a.eval oi).run P w = .ok (.value v) w)
    (h : WE P md l Q S s f (listed.setIfInBounds i true) (a.put oi.dst v) w) : WE P md l Q S s (f + 1) listed a w := fun inv => by
  have hi' : l.toArray[i]? = some oi := by simpa using hi
  simp only [tailOkB, Bool.and_eq_true, decide_eq_true_eq] at hT
  obtain ⟨⟨⟨hsel, hn⟩, hs⟩, hc⟩ := hT
  have hr' : i ∈ Region.ready md l.toArray listed := by simpa using hr
  exact wpAnyE_first hi' (Region.noSelect_spec hsel) hs hc hn his hQ f listed a w inv (Region.free_spec hi' hf) hr' (.inl ⟨hw, hy⟩) hS (h (inv.set hr' his))

theorem WE_one {i : Nat} {o : Oper} {f : Nat} {listed : Array Bool} {a : Act} {w : World} (hi : l[i]? = some o) (his : i < s) (hr : Region.ready md l.toArray listed = [i])
    (h : ∀ K : Act → World → Prop, Shut (∀ a w, S w → (S w → WE P md l Q S s f (listed.setIfInBounds i true) a w) → K a w) → if Region.wanted o (yielded l.toArray a.tmps) = true then Oper.wp P o a w K Q else K (a.put o.dst undef) w) :
    WE P md l Q S s (f + 1) listed a w := fun inv => by
  have hi' : l.toArray[i]? = some o := by simpa using hi
  have hm : i ∈ Region.ready md l.toArray listed := by rw [hr]; simp
  refine ⟨fun h => (by rw [h] at hr; cases hr), fun j hj => ?_⟩
  rw [hr] at hj
  obtain rfl : j = i := by simpa using hj
  exact wpOp_step hi' (fun K hK => h K (fun a w hS hW => hK a w ⟨fun _ => hS, hW hS (inv.set hm his)⟩))

theorem WE_last {o : Oper} {f : Nat} {listed : Array Bool} {a : Act} {w : World} (hi : l[s]? = some o) (hr : Region.ready md l.toArray listed = [s]) (hr2 : Region.ready md l.toArray (listed.setIfInBounds s true) = []) (hb : (listed.setIfInBounds s true).getD s true = true)
    (h : ∀ K : Act → World → Prop, Shut (∀ a w, Q .normal a w → K a w) → if Region.wanted o (yielded l.toArray a.tmps) = true then Oper.wp P o a w K Q else K (a.put o.dst undef) w) :
    WE P md l Q S s (f + 1) listed a w := fun _ => by
  have hi' : l.toArray[s]? = some o := by simpa using hi
  refine ⟨fun h => (by rw [h] at hr; cases hr), fun j hj => ?_⟩
  rw [hr] at hj
  obtain rfl : j = s := by simpa using hj
  refine wpOp_step hi' (fun K hK => h K (fun a w hQ => hK a w ⟨fun e => (by rw [hb] at e; cases e), ?_⟩))
  cases f with
  | zero => exact ⟨hr2, hQ⟩
  | succ f => exact ⟨fun _ => hQ, by rw [hr2]; simp⟩

theorem wp_region_E {id : Nat} {a : Act} {w : World} (s n : Nat) (hn : l.length = n) (hm : P.follows .mixedOrders = true) (hT : tailOkB .any l s = true) (hS : S w.drew)
    (h : S w.drew → WE P .any l Q S s n (Array.replicate n false) a w.drew) : (Code.region id l.toArray true).wp P Q a w := by
  have hsz : l.toArray.size = n := by simpa using hn
  refine wp_region_any hm (wpAny_of_E (S := S) (s := s) _ _ _ _ ?_)
  rw [hsz]
  exact h hS ⟨by simp [hsz], fun j oj _ hl => (by rw [getD_replicate_false] at hl; cases hl), fun t _ ht => getD_in (by simpa [hsz] using ht) (getD_replicate_false _ _)⟩
end
end

section
open Go.RowKit

theorem WE_two {P : Program} {l : List Oper} {Q : Exit → Act → World → Prop} {md : Region.Mode} {S : World → Prop} {s i j : Nat} {o o' : Oper} {f : Nat} {listed : Array Bool} {a : Act} {w : World} (hi : l[i]? = some o) (hj : l[j]? = some o') (his : i < s) (hjs : j < s) (hr : Region.ready md l.toArray listed = [i, j])
    (h : ∀ K : Act → World → Prop, Shut (∀ a w, S w → (S w → WE P md l Q S s f (listed.setIfInBounds i true) a w) → K a w) → if Region.wanted o (yielded l.toArray a.tmps) = true then Oper.wp P o a w K Q else K (a.put o.dst undef) w)
    (h' : ∀ K : Act → World → Prop, Shut (∀ a w, S w → (S w → WE P md l Q S s f (listed.setIfInBounds j true) a w) → K a w) → if Region.wanted o' (yielded l.toArray a.tmps) = true then Oper.wp P o' a w K Q else K (a.put o'.dst undef) w) :
    WE P md l Q S s (f + 1) listed a w := fun inv => by
  have hi' : l.toArray[i]? = some o := by simpa using hi
  have hj' : l.toArray[j]? = some o' := by simpa using hj
  have hmi : i ∈ Region.ready md l.toArray listed := by rw [hr]; simp
  have hmj : j ∈ Region.ready md l.toArray listed := by rw [hr]; simp
  refine ⟨fun h => (by rw [h] at hr; cases hr), fun q hq => ?_⟩
  rw [hr] at hq
  rcases (show q = i ∨ q = j from by simpa using hq) with rfl | rfl
  · exact wpOp_step hi' (fun K hK => h K (fun a w hS hW => hK a w ⟨fun _ => hS, hW hS (inv.set hmi his)⟩))
  · exact wpOp_step hj' (fun K hK => h' K (fun a w hS hW => hK a w ⟨fun _ => hS, hW hS (inv.set hmj hjs)⟩))
theorem WE_skip {P : Program} {l : List Oper} {Q : Exit → Act → World → Prop} {md : Region.Mode} {S : World → Prop} {s i : Nat} {oi : Oper} {f : Nat} {listed : Array Bool} {a : Act} {w : World} (hi : l[i]? = some oi) (hT : tailOkB md l s = true) (his : i < s)
    (hf : Region.free md l.toArray listed i = true) (hr : (Region.ready md l.toArray listed).contains i = true)
    (hQ : ∀ c a w, Q (.panic c) (a.put oi.dst undef) w → Q (.panic c) a w) (hw : Region.wanted oi (yielded l.toArray a.tmps) = false) (hS : S w)
    (h : WE P md l Q S s f (listed.setIfInBounds i true) (a.put oi.dst undef) w) : WE P md l Q S s (f + 1) listed a w := fun inv => by
  have hi' : l.toArray[i]? = some oi := by simpa using hi
  simp only [tailOkB, Bool.and_eq_true, decide_eq_true_eq] at hT
  obtain ⟨⟨⟨hsel, hn⟩, hs⟩, hc⟩ := hT
  have hr' : i ∈ Region.ready md l.toArray listed := by simpa using hr
  exact wpAnyE_first hi' (Region.noSelect_spec hsel) hs hc hn his hQ f listed a w inv (Region.free_spec hi' hf) hr' (.inr ⟨hw, rfl⟩) hS (h (inv.set hr' his))

theorem below_setRow {B : Nat} {a w : World} (h : Below B a w) {g : Nat} (hg : B ≤ g) (cs : Array Value) : Below B a (w.setRow g cs) :=
  h.trans ⟨rfl, rfl, rfl, by simp, fun k hk => by simp only [World.setRow, Array.getElem?_modify]; rw [if_neg (by omega)]⟩
end

section
open Go.RowKit

theorem rune_dig : ∀ u : Fin 10, Utf8.encode (48 + (u.val : Int)) = SB [UInt8.ofNat (48 + u.val)] := by decide +kernel
theorem rune_dig' {u : Nat} (h : u < 10) : Utf8.encode (48 + (u : Int)) = SB [UInt8.ofNat (48 + u)] := rune_dig ⟨u, h⟩

theorem dg2 {u : Nat} (h0 : 10 ≤ u) (hu : u < 100) : dg u = dg (u / 10) ++ [UInt8.ofNat (48 + u % 10)] := by
  unfold dg
  rw [if_neg (by omega), if_pos hu, if_pos (by omega)]
  rfl
theorem dg3 {u : Nat} (h0 : 100 ≤ u) (hu : u < 1000) : dg u = dg (u / 10) ++ [UInt8.ofNat (48 + u % 10)] := by
  unfold dg
  rw [if_neg (by omega), if_neg (by omega), if_neg (by omega), if_pos (by omega)]
  rfl
theorem dg_two {u : Nat} (h : u < 100) : (dg u).length ≤ 2 := by
  unfold dg
  split
  · simp
  · simp

end

section
open Go.RowKit Go.ChangeShapes Go.WideShapes Go.Deep

section
variable {H : Type} {enc : TypeId × Value → H} {P : Program} {w : World} {base : Nat} {spare : Nat → Bool} {held : Bool}

def Fit (P : Program) (t : TypeId) (d : DataW H) : Prop := ∀ n ∈ d.weights P t, n ≤ reachBytes

theorem mem_weightsAll {e : TypeId} : ∀ {l : List (DataW H)} {d : DataW H}, d ∈ l → ∀ n ∈ d.weights P e, n ∈ DataW.weightsAll P e l
  | d0 :: l, d, hd, n, hn => by
    simp only [DataW.weightsAll, List.mem_append]
    rcases List.mem_cons.1 hd with rfl | h
    · exact .inl hn
    · exact .inr (mem_weightsAll h n hn)
  | [], _, hd, _, _ => by cases hd
theorem Fit.part {t : TypeId} {fs : Array Field} (hs : P.underlying t = some (.struct fs)) {parts : List (DataW H)} (h : Fit P t (.agg parts)) {j : Nat} {f : Field} {d : DataW H} (hf : fs[j]? = some f) (hd : parts[j]? = some d) : Fit P f.type d :=
  fun n hn => h n (by simp only [DataW.weights, hs]; exact DataW.weights_mem_each (by simp [hf]) hd n hn)
theorem Fit.len {t e : TypeId} (ht : P.underlying t = some (.slice e)) {elems sp : List (DataW H)} (h : Fit P t (.slice elems sp)) : (elems.length + sp.length) * P.bytesOf e ≤ reachBytes := h _ (by simp [DataW.weights, ht])
theorem Fit.elem {t e : TypeId} (ht : P.underlying t = some (.slice e)) {elems sp : List (DataW H)} (h : Fit P t (.slice elems sp)) {d : DataW H} (hd : d ∈ elems) : Fit P e d :=
  fun n hn => h n (by simp only [DataW.weights, ht, List.mem_cons, List.mem_append]; exact .inr (.inl (mem_weightsAll hd n hn)))

theorem choose_list {α : Type} {Q : Nat → α → Prop} : ∀ (len : Nat), (∀ i, i < len → ∃ a, Q i a) → ∃ l : List α, l.length = len ∧ ∀ i (h : i < l.length), Q i l[i]
  | 0, _ => ⟨[], rfl, fun i h => by simp at h⟩
  | len + 1, hq => by
    obtain ⟨l, hl, h⟩ := choose_list len fun i hi => hq i (by omega)
    obtain ⟨a, ha⟩ := hq len (by omega)
    refine ⟨l ++ [a], by simp [hl], fun i hi => ?_⟩
    rcases Nat.lt_or_ge i l.length with h1 | h1
    · rw [List.getElem_append_left h1]; exact h i h1
    · have : i = l.length := by simp at hi; omega
      subst this
      simp only [List.getElem_concat_length]
      rw [hl]; exact ha

theorem open_rows {α : Type} (f : α → List Value) (K B : Nat) (Ok : α → Prop) {t e : TypeId} {fuel : Nat} {cs : List Value} {x : DataW H × List MemPlace} (ht : P.underlying t = some (.slice e)) (hC : P.cellsOf e = K) (hK : 0 < K) (hf : ∀ a, (f a).length = K) (hB : P.bytesOf e = B)
    (el : ∀ n cs x, DataW.trod enc P w base spare held n e cs = some x → Fit P e x.1 → ∃ a, cs = f a ∧ Ok a)
    (h : DataW.trod enc P w base spare held fuel t cs = some x) (hw : Fit P t x.1) :
    ∃ (A : Option Addr) (l : List α) (c : Nat), cs = [.slice A l.length c] ∧ Rd w A (l.flatMap f) ∧ (∀ a ∈ l, Ok a) ∧ l.length * B ≤ reachBytes := by
  rcases open_slice ht h with ⟨rfl, rfl⟩ | ⟨a, len, cap, m, n, D, Pl, rfl, hb, hl, hm, hmm, rfl, hi⟩
  · exact ⟨none, [], 0, rfl, Rd.nil _ _, by simp, by simp⟩
  · have hlm : len ≤ m := by rw [hmm]; split <;> omega
    rw [hC] at hi
    obtain ⟨l, rfl, hq⟩ := choose_list (Q := fun i a' => w.cells? base (a.add (i * K)) K = some (f a') ∧ Ok a') len fun i hlt => by
      obtain ⟨cs', hc, htr⟩ := hi i (by omega)
      obtain ⟨a', rfl, ho⟩ := el n cs' _ htr (hw.elem ht (List.mem_map.2 ⟨i, List.mem_range.2 hlt, rfl⟩))
      exact ⟨a', hc, ho⟩
    refine ⟨some a, l, cap, rfl, fun hne => ?_, fun a' ha => ?_, ?_⟩
    · have h0 : 0 < l.length := by
        rcases Nat.eq_zero_or_pos l.length with h | h
        · rw [List.eq_nil_of_length_eq_zero h] at hne; simp at hne
        · exact h
      obtain ⟨-, -, hat⟩ := World.cells?_some (hq 0 h0).1
      have h1 := hat 0 hK
      rw [Nat.zero_mul, Addr.add_zero', Addr.add_zero', List.getElem?_eq_getElem (by rw [hf]; exact hK)] at h1
      have hsp : a.spot = none ∧ a.block < w.heap.size := by
        unfold World.cell? at h1
        split at h1
        · rename_i hh
          refine ⟨?_, (Array.getElem?_eq_some_iff.1 hh).1⟩
          split at h1
          · cases h1
          · simpa using ‹¬ a.spot.isSome = true›
        · cases h1
      obtain ⟨b, off, sp⟩ := a
      obtain ⟨rfl, hbl⟩ := hsp
      refine ⟨b, off, rfl, hbl, fun j u hu => ?_⟩
      have hj : j < l.length * K := by
        rcases Nat.lt_or_ge j (l.length * K) with h | h
        · exact h
        · rw [List.getElem?_eq_none (by rw [flat_len hf]; exact h)] at hu; cases hu
      have hi' : j / K < l.length := Nat.div_lt_of_lt_mul (by rw [Nat.mul_comm]; exact hj)
      have hr : j % K < K := Nat.mod_lt _ hK
      have e : j / K * K + j % K = j := Nat.div_add_mod' j K
      have h2 := flat_at hf l (j / K) (j % K) hi' hr
      rw [e, hu] at h2
      obtain ⟨-, -, hat⟩ := World.cells?_some (hq (j / K) hi').1
      have h3 := hat _ hr
      rw [← h2, add_at, add_at, Nat.add_assoc, e] at h3
      exact h3
    · obtain ⟨i, hi', rfl⟩ := List.getElem_of_mem ha
      exact (hq i hi').2
    · have h4 := hw.len ht
      rw [hB] at h4
      simp only [List.length_map, List.length_range] at h4
      exact Nat.le_trans (Nat.mul_le_mul_right B (Nat.le_add_right _ _)) h4
end
end

section
open Go.RowKit Go.ChangeShapes Go.WideShapes Go.Deep

section
variable {H : Type} {enc : TypeId × Value → H} {w : World} {base : Nat} {spare : Nat → Bool} {held : Bool}

theorem len4 {α : Type} {l : List α} (h : l.length = 4) : ∃ a b c d, l = [a, b, c, d] := by
  match l, h with
  | [a, b, c, d], _ => exact ⟨a, b, c, d, rfl⟩
theorem len7 {α : Type} {l : List α} (h : l.length = 7) : ∃ a b c d e f g, l = [a, b, c, d, e, f, g] := by
  match l, h with
  | [a, b, c, d, e, f, g], _ => exact ⟨a, b, c, d, e, f, g, rfl⟩

theorem wf_i64 {m : Int} (h : (Lit.int .i64 m).wf = true) : I64 m := by
  simp [Lit.wf, IntKind.min, IntKind.max, IntKind.signed, IntKind.bits] at h
  exact ⟨by omega, by omega⟩
theorem cells_int : Tryz.prog.cellsOf 3 = 1 := by kernel_rfl
theorem one_int {n : Nat} {cs : List Value} {y : DataW H × List MemPlace} (h : DataW.trod enc Tryz.prog w base spare held n 3 cs = some y) : ∃ m, cs = [.int .i64 m] ∧ I64 m := by
  obtain ⟨m, rfl, -, hw⟩ := DataW.trod_int Tryz.underlying3 h
  exact ⟨m, rfl, wf_i64 hw⟩
/-- A number's field in the cells of a struct. -/
theorem field_int {n : Nat} {cs : List Value} {off : Nat} {c : Value} {xs : List (DataW H × List MemPlace)} {j : Nat} (hj : j < xs.length) (hc : cs[off]? = some c)
    (h : DataW.trod enc Tryz.prog w base spare held n 3 ((cs.drop off).take (Tryz.prog.cellsOf 3)) = xs[j]?) : ∃ m, c = .int .i64 m ∧ I64 m := by
  rw [List.getElem?_eq_getElem hj, cells_int] at h
  obtain ⟨m, hm, hw⟩ := one_int h
  obtain ⟨hlt, rfl⟩ := List.getElem?_eq_some_iff.1 hc
  rw [List.drop_eq_getElem_cons hlt] at hm
  simp only [List.take_succ_cons, List.take_zero, List.cons.injEq, and_true] at hm
  exact ⟨m, hm, hw⟩
theorem one_string {n : Nat} {cs : List Value} {y : DataW H × List MemPlace} (h : DataW.trod enc Tryz.prog w base spare held n 9 cs = some y) (hf : Fit Tryz.prog 9 y.1) : ∃ l : List UInt8, cs = [.string (SB l)] ∧ l.length ≤ 140737488355328 := by
  obtain ⟨s, rfl, rfl, -⟩ := DataW.trod_string Tryz.underlying9 h
  refine ⟨s.data.toList, by rw [SB_of], ?_⟩
  have := hf s.data.toList.length (by simp [DataW.weights])
  unfold reachBytes at this
  omega

theorem open_items {fuel : Nat} {cs : List Value} {x : DataW H × List MemPlace} (h : DataW.trod enc Tryz.prog w base spare held fuel 212 cs = some x) (hw : Fit Tryz.prog 212 x.1) :
    ∃ (A : Option Addr) (l : List It) (c : Nat), cs = [.slice A l.length c] ∧ ItsOk w A l := by
  obtain ⟨A, l, c, rfl, hr, hok, hb⟩ := open_rows itC 7 64 (fun x => x.text.length ≤ 140737488355328) Tryz.underlying212 (by kernel_rfl) (by omega) (fun _ => rfl) (by kernel_rfl)
    (fun n cs x h hf => by
      obtain ⟨xs, n', -, rfl, hlen, hxl, hg⟩ := DataW.trod_struct Tryz.underlying320 h
      rw [show Tryz.prog.cellsOf 320 = 7 by kernel_rfl] at hlen
      have hxl : xs.length = 7 := hxl
      obtain ⟨c0, c1, c2, c3, c4, c5, c6, rfl⟩ := len7 hlen
      obtain ⟨m0, rfl, w0⟩ := field_int (j := 0) (off := 0) (by omega) rfl (hg 0 _ rfl)
      obtain ⟨m1, rfl, w1⟩ := field_int (j := 1) (off := 1) (by omega) rfl (hg 1 _ rfl)
      obtain ⟨m2, rfl, w2⟩ := field_int (j := 2) (off := 2) (by omega) rfl (hg 2 _ rfl)
      obtain ⟨m3, rfl, w3⟩ := field_int (j := 3) (off := 3) (by omega) rfl (hg 3 _ rfl)
      obtain ⟨m4, rfl, w4⟩ := field_int (j := 4) (off := 4) (by omega) rfl (hg 4 _ rfl)
      obtain ⟨m5, rfl, w5⟩ := field_int (j := 5) (off := 5) (by omega) rfl (hg 5 _ rfl)
      have h6 := hg 6 _ rfl
      rw [List.getElem?_eq_getElem (by omega)] at h6
      obtain ⟨t, hcs, ht⟩ := one_string h6 (hf.part (j := 6) Tryz.underlying320 rfl (by rw [List.getElem?_map, List.getElem?_eq_getElem (by omega)]; rfl))
      have hcs2 : List.take (Tryz.prog.cellsOf 9) [c6] = [Value.string (SB t)] := hcs
      rw [show Tryz.prog.cellsOf 9 = 1 by kernel_rfl] at hcs2
      have hcs' : [c6] = [Value.string (SB t)] := hcs2
      obtain rfl := List.cons.inj hcs' |>.1
      exact ⟨⟨m0, m1, m2, m3, m4, m5, t⟩, rfl, ht⟩) h hw
  exact ⟨A, l, c, rfl, ⟨by unfold reachBytes at hb; omega, hr, hok⟩⟩

theorem open_face {fuel : Nat} {cs : List Value} {x : DataW H × List MemPlace} (h : DataW.trod enc Tryz.prog w base spare held fuel 214 cs = some x) (hw : Fit Tryz.prog 214 x.1) :
    ∃ (f : Fc) (A : Option Addr) (c : Nat), cs = [.int .i64 f.shape, .int .i64 f.size, .int .i64 f.height, .slice A f.items.length c] ∧ ItsOk w A f.items := by
  obtain ⟨xs, n', -, rfl, hlen, hxl, hg⟩ := DataW.trod_struct Tryz.underlying214 h
  rw [show Tryz.prog.cellsOf 214 = 4 by kernel_rfl] at hlen
  have hxl : xs.length = 4 := hxl
  obtain ⟨c0, c1, c2, c3, rfl⟩ := len4 hlen
  obtain ⟨m0, rfl, w0⟩ := field_int (j := 0) (off := 0) (by omega) rfl (hg 0 _ rfl)
  obtain ⟨m1, rfl, w1⟩ := field_int (j := 1) (off := 1) (by omega) rfl (hg 1 _ rfl)
  obtain ⟨m2, rfl, w2⟩ := field_int (j := 2) (off := 2) (by omega) rfl (hg 2 _ rfl)
  have h3 := hg 3 _ rfl
  rw [List.getElem?_eq_getElem (by omega)] at h3
  obtain ⟨A, l, c, hcs, hl⟩ := open_items h3 (hw.part (j := 3) Tryz.underlying214 rfl (by rw [List.getElem?_map, List.getElem?_eq_getElem (by omega)]; rfl))
  have hcs2 : List.take (Tryz.prog.cellsOf 212) [c3] = [Value.slice A l.length c] := hcs
  rw [show Tryz.prog.cellsOf 212 = 1 by kernel_rfl] at hcs2
  have hcs' : [c3] = [Value.slice A l.length c] := hcs2
  obtain rfl := List.cons.inj hcs' |>.1
  exact ⟨⟨m0, m1, m2, l⟩, A, c, rfl, hl⟩
end
end

end Go.Proofs.YtfklckjfbnaoeaaGreatDoor
