/-
  A block that holds an ask, kept while the world grows; what the laws of this chapter share.
-/
import Derived.Test.YtmpngoejnmlmbaaGreatWhy
import Derived.Test.YtmpngoejnmlmbaaGreatRowsP
import Derived.Test.YtmpngoejnmlmbaaGreatKitB
set_option linter.unusedSimpArgs false
set_option linter.unusedVariables false
namespace Go.Proofs.YtmpngoejnmlmbaaGreat
open Go.RowKit

/-- Block B holds these eight cells. -/
structure Ask8 (w : World) (B : Nat) (v0 v1 v2 v3 v4 v5 v6 v7 : Value) : Prop where
  lt : B < w.heap.size
  c0 : w.cell? ⟨B, 0, none⟩ = some v0
  c1 : w.cell? ⟨B, 1, none⟩ = some v1
  c2 : w.cell? ⟨B, 2, none⟩ = some v2
  c3 : w.cell? ⟨B, 3, none⟩ = some v3
  c4 : w.cell? ⟨B, 4, none⟩ = some v4
  c5 : w.cell? ⟨B, 5, none⟩ = some v5
  c6 : w.cell? ⟨B, 6, none⟩ = some v6
  c7 : w.cell? ⟨B, 7, none⟩ = some v7
theorem Ask8.below {w w' : World} {B : Nat} {v0 v1 v2 v3 v4 v5 v6 v7 : Value} (h : Ask8 w B v0 v1 v2 v3 v4 v5 v6 v7) (hb : Below w.heap.size w w') : Ask8 w' B v0 v1 v2 v3 v4 v5 v6 v7 :=
  have k : ∀ i, w'.cell? ⟨B, i, none⟩ = w.cell? ⟨B, i, none⟩ := fun i => hb.cell (p := ⟨B, i, none⟩) h.lt
  ⟨Nat.lt_of_lt_of_le h.lt hb.size, (k _).trans h.c0, (k _).trans h.c1, (k _).trans h.c2, (k _).trans h.c3, (k _).trans h.c4, (k _).trans h.c5, (k _).trans h.c6, (k _).trans h.c7⟩
theorem Ask8.new (w : World) (v0 v1 v2 v3 v4 v5 v6 v7 : Value) (t : TypeId) : Ask8 (w.alloc (.cells #[v0, v1, v2, v3, v4, v5, v6, v7] t)) w.heap.size v0 v1 v2 v3 v4 v5 v6 v7 := by
  have k : ∀ i, (w.alloc (.cells #[v0, v1, v2, v3, v4, v5, v6, v7] t)).cell? ⟨w.heap.size, i, none⟩ = #[v0, v1, v2, v3, v4, v5, v6, v7][i]? := fun i => by rw [World.cell?_alloc_new]
  exact ⟨by simp, by rw [k]; rfl, by rw [k]; rfl, by rw [k]; rfl, by rw [k]; rfl, by rw [k]; rfl, by rw [k]; rfl, by rw [k]; rfl, by rw [k]; rfl⟩
theorem Ask8.cells {w : World} {B : Nat} {v0 v1 v2 v3 v4 v5 v6 v7 : Value} (h : Ask8 w B v0 v1 v2 v3 v4 v5 v6 v7) :
    w.cell? ⟨B, 0, none⟩ = some v0 ∧ w.cell? ⟨B, 1, none⟩ = some v1 ∧ w.cell? ⟨B, 2, none⟩ = some v2 ∧ w.cell? ⟨B, 3, none⟩ = some v3 ∧ w.cell? ⟨B, 4, none⟩ = some v4 ∧ w.cell? ⟨B, 5, none⟩ = some v5 ∧ w.cell? ⟨B, 6, none⟩ = some v6 ∧ w.cell? ⟨B, 7, none⟩ = some v7 :=
  ⟨h.c0, h.c1, h.c2, h.c3, h.c4, h.c5, h.c6, h.c7⟩

theorem Ask8.after {w : World} {B : Nat} {v0 v1 v2 v3 v4 v5 v6 v7 : Value} (h : Ask8 w B v0 v1 v2 v3 v4 v5 v6 v7) :
    (∀ p : After w, p.w.cell? ⟨B, 0, none⟩ = some v0) ∧ (∀ p : After w, p.w.cell? ⟨B, 1, none⟩ = some v1) ∧ (∀ p : After w, p.w.cell? ⟨B, 2, none⟩ = some v2) ∧ (∀ p : After w, p.w.cell? ⟨B, 3, none⟩ = some v3) ∧
    (∀ p : After w, p.w.cell? ⟨B, 4, none⟩ = some v4) ∧ (∀ p : After w, p.w.cell? ⟨B, 5, none⟩ = some v5) ∧ (∀ p : After w, p.w.cell? ⟨B, 6, none⟩ = some v6) ∧ (∀ p : After w, p.w.cell? ⟨B, 7, none⟩ = some v7) :=
  ⟨fun p => (h.below p.below).c0, fun p => (h.below p.below).c1, fun p => (h.below p.below).c2, fun p => (h.below p.below).c3, fun p => (h.below p.below).c4, fun p => (h.below p.below).c5, fun p => (h.below p.below).c6, fun p => (h.below p.below).c7⟩
theorem signs_after {w : World} {b off : Nat} {l : List Sg} (hb : b < w.heap.size) (h : ∀ j u, (signs l)[j]? = some u → w.cell? ⟨b, off + j, none⟩ = some u) {k : Nat} (hk : k < l.length) :
    (∀ p : After w, p.w.cell? ⟨b, off + k * 9, none⟩ = some (.int .i64 l[k].num)) ∧ (∀ p : After w, p.w.cell? ⟨b, off + k * 9 + 1, none⟩ = some (.int .i64 l[k].kind)) ∧ (∀ p : After w, p.w.cell? ⟨b, off + k * 9 + 2, none⟩ = some (.int .i64 l[k].val)) ∧
    (∀ p : After w, p.w.cell? ⟨b, off + k * 9 + 3, none⟩ = some (.int .i64 l[k].chain)) ∧ (∀ p : After w, p.w.cell? ⟨b, off + k * 9 + 4, none⟩ = some (.int .i64 l[k].dir)) ∧ (∀ p : After w, p.w.cell? ⟨b, off + k * 9 + 5, none⟩ = some (.int .i64 l[k].rank)) ∧
    (∀ p : After w, p.w.cell? ⟨b, off + k * 9 + 6, none⟩ = some (.int .i64 l[k].up)) ∧ (∀ p : After w, p.w.cell? ⟨b, off + k * 9 + 7, none⟩ = some (.int .i64 l[k].down)) ∧ (∀ p : After w, p.w.cell? ⟨b, off + k * 9 + 8, none⟩ = some (.slice l[k].cA l[k].cov.length l[k].cc)) := by
  obtain ⟨m0, m1, m2, m3, m4, m5, m6, m7, m8⟩ := signs_cells h hk
  exact ⟨After.cell hb m0, After.cell hb m1, After.cell hb m2, After.cell hb m3, After.cell hb m4, After.cell hb m5, After.cell hb m6, After.cell hb m7, After.cell hb m8⟩

/-- The error that a row's ask has by package rule is the law's. -/
theorem why_asked (len : Int) (js : List Int) (l : List Sg) (ed : List Ed) (hour dir topic : Int) :
    whyE len js l ed true false (decide (0 ≤ hour ∧ hour ≤ 10000000) && dirB dir && decide (1 ≤ topic ∧ topic ≤ 2)) = askedE len js l hour dir topic := by
  simp [whyE, askedE]
theorem why_asked1 (len : Int) (js : List Int) (l : List Sg) (ed : List Ed) (hour dir : Int) :
    whyE len js l ed true false (decide (0 ≤ hour ∧ hour ≤ 10000000) && dirB dir) = askedE len js l hour dir 1 := by
  rw [← why_asked len js l ed hour dir 1]; simp

end Go.Proofs.YtmpngoejnmlmbaaGreat
