/-
  The row of a direction: package rule's rowOf.
-/
import Derived.Test.YtmpngoejnmlmbaaGreatSigns
import Derived.Test.YtmpngoejnmlmbaaGreatCmp
import Derived.Test.YtmpngoejnmlmbaaGreatSort
import Derived.Test.YtmpngoejnmlmbaaGreatSortK
import Derived.Deep.AppendLies
set_option linter.unusedSimpArgs false
set_option linter.unusedVariables false
namespace Go.Proofs.YtmpngoejnmlmbaaGreat
open Go.RowKit Go.Shelf Go.Sort

/-- A sign of a row with its distance. -/
structure Mt where
  s : Sg
  far : Int
instance : Inhabited Mt := ⟨⟨⟨0, 0, 0, 0, 0, 0, 0, 0, none, 0, []⟩, 0⟩⟩
def mtC (m : Mt) : List Value := sgC m.s ++ [.int .i64 m.far]
def mtO (a b : Mt) : Int := orI [cmpI a.far b.far, cmpI a.s.rank b.s.rank, cmpI a.s.num b.s.num]

theorem grow3 (w : World) (a b c : Obj) : (((w.alloc a).alloc b).alloc c).drew = grow (w.drewN 1) #[a, b, c] := by
  rw [alloc_eq_grow, alloc_eq_grow, alloc_eq_grow, grow_grow, grow_grow]
  rfl

set_option maxHeartbeats 1000000 in
set_option maxRecDepth 100000 in
theorem mtCmp_calls (a b : Mt) (w : World) :
    Calls Tryz.prog 90 #[.agg #[.int .i64 a.s.num, .int .i64 a.s.kind, .int .i64 a.s.val, .int .i64 a.s.chain, .int .i64 a.s.dir, .int .i64 a.s.rank, .int .i64 a.s.up, .int .i64 a.s.down, .slice a.s.cA a.s.cov.length a.s.cc, .int .i64 a.far],
      .agg #[.int .i64 b.s.num, .int .i64 b.s.kind, .int .i64 b.s.val, .int .i64 b.s.chain, .int .i64 b.s.dir, .int .i64 b.s.rank, .int .i64 b.s.up, .int .i64 b.s.down, .slice b.s.cA b.s.cov.length b.s.cc, .int .i64 b.far]] w fun e w' =>
      e = .returned (.int .i64 (mtO a b)) ∧ ∃ q os, w' = grow (w.drewN q) os := by
  go_enter Tryz.func90, Tryz.ntmps90
  go_wp2_with fail
  generalize hW : (World.alloc (World.alloc w _) _) = W
  have a0 : W.cell? ⟨w.heap.size, 9, none⟩ = some (.int .i64 a.far) := by rw [← hW]; simp [go_sem]
  have a1 : W.cell? ⟨w.heap.size, 5, none⟩ = some (.int .i64 a.s.rank) := by rw [← hW]; simp [go_sem]
  have a2 : W.cell? ⟨w.heap.size, 0, none⟩ = some (.int .i64 a.s.num) := by rw [← hW]; simp [go_sem]
  have b0 : W.cell? ⟨w.heap.size + 1, 9, none⟩ = some (.int .i64 b.far) := by rw [← hW]; simp [go_sem]
  have b1 : W.cell? ⟨w.heap.size + 1, 5, none⟩ = some (.int .i64 b.s.rank) := by rw [← hW]; simp [go_sem]
  have b2 : W.cell? ⟨w.heap.size + 1, 0, none⟩ = some (.int .i64 b.s.num) := by rw [← hW]; simp [go_sem]
  have HW := hid hW
  clear hW
  go_region_held3 (fun w' => w'.cell? ⟨w.heap.size, 9, none⟩ = some (.int .i64 a.far) ∧ w'.cell? ⟨w.heap.size, 5, none⟩ = some (.int .i64 a.s.rank) ∧ w'.cell? ⟨w.heap.size, 0, none⟩ = some (.int .i64 a.s.num) ∧ w'.cell? ⟨w.heap.size + 1, 9, none⟩ = some (.int .i64 b.far) ∧ w'.cell? ⟨w.heap.size + 1, 5, none⟩ = some (.int .i64 b.s.rank) ∧ w'.cell? ⟨w.heap.size + 1, 0, none⟩ = some (.int .i64 b.s.num)) (go_keep)
    (first | (go_at_call 91; refine (compare_calls _ _ _).mono ?_; rintro e w' ⟨rfl, rfl⟩) | (go_at_call 58; refine (or3_calls _ _ _ _ _ _ (rd3 W 3 _ _ _)).mono ?_; rintro e w' ⟨rfl, rfl⟩))
  go_wp2_with fail
  go_ret
  rw [← unhid HW]
  exact ⟨rfl, 1, _, grow3 _ _ _ _⟩

def distI (len dir chain : Int) : Int := if dir = 1 then chain else len - chain

set_option maxHeartbeats 400000 in
theorem distance_calls (len : Int) (A : Option Addr) (n c : Nat) (dir chain : Int) (w : World) (h0 : 0 ≤ chain) (h1 : chain ≤ len) (h2 : len ≤ 100000) :
    Calls Tryz.prog 61 #[.agg #[.int .i64 len, .slice A n c], .int .i64 dir, .int .i64 chain] w fun e w' =>
      e = .returned (.int .i64 (distI len dir chain)) ∧ w' = w.alloc (.cells #[.int .i64 len, .slice A n c] 24) := by
  by_cases hd : dir = 1
  · subst hd
    go_enter Tryz.func61, Tryz.ntmps61
    go_wp2_with fail
    go_ret
    exact ⟨rfl, rfl⟩
  · have hd' : (dir == 1) = false := by simpa using hd
    go_enter Tryz.func61, Tryz.ntmps61
    go_wp2_with fail
    go_ret
    exact ⟨by rw [distI, if_neg hd]; rfl, rfl⟩

/-- The signs of a list that speak in a direction, with their distances, in the list's order. -/
def selP (len hour dir : Int) (l : List Sg) : List Mt := (l.filter fun s => decide (s.dir = dir) && spkB s hour).map fun s => ⟨s, distI len dir s.chain⟩

theorem selP_snoc (len hour dir : Int) (l : List Sg) {k : Nat} (hk : k < l.length) :
    selP len hour dir (l.take (k + 1)) = selP len hour dir (l.take k) ++ if (decide (l[k].dir = dir) && spkB l[k] hour) = true then [⟨l[k], distI len dir l[k].chain⟩] else [] := by
  rw [List.take_succ_eq_append_getElem hk, selP, selP, List.filter_append, List.map_append]
  congr 1
  cases h : (decide (l[k].dir = dir) && spkB l[k] hour) <;> simp [List.filter_cons, h]
theorem selP_len (len hour dir : Int) (l : List Sg) : (selP len hour dir l).length ≤ l.length := by
  rw [selP, List.length_map]; exact List.length_filter_le _ _

theorem info_meets : (Tryz.prog.info? 97).map (fun i => (i.zero, i.size, i.bytes)) = some (some (.agg #[.int .i64 0, .int .i64 0, .int .i64 0, .int .i64 0, .int .i64 0, .int .i64 0, .int .i64 0, .int .i64 0, .slice none 0 0, .int .i64 0]), 10, 96) := by kernel_rfl

/-- A sign stands before another one in a row. -/
def mtLt (a b : Mt) : Prop := a.far < b.far ∨ (a.far = b.far ∧ (a.s.rank < b.s.rank ∨ (a.s.rank = b.s.rank ∧ a.s.num < b.s.num)))
theorem mtO_iff (a b : Mt) : ltOf mtO a b = true ↔ mtLt a b := by
  simp only [ltOf, mtO, mtLt, decide_eq_true_eq, orI, cmpI]
  rcases Int.lt_trichotomy a.far b.far with h | h | h
  · simp [h]
  · rcases Int.lt_trichotomy a.s.rank b.s.rank with h' | h' | h'
    · simp [h, h']
    · rcases Int.lt_trichotomy a.s.num b.s.num with h'' | h'' | h''
      · simp [h, h', h'']
      · simp [h, h', h'']
      · have : ¬ a.s.num < b.s.num := by omega
        simp [h, h', h'', this]
    · have h1 : ¬ a.s.rank < b.s.rank := by omega
      have h2 : a.s.rank ≠ b.s.rank := by omega
      simp [h, h', h1, h2]
  · have h1 : ¬ a.far < b.far := by omega
    have h2 : a.far ≠ b.far := by omega
    simp [h, h1, h2]
theorem mtSWO : SWO (ltOf mtO) where
  irrefl x := by
    cases h : ltOf mtO x x
    · rfl
    · have := (mtO_iff x x).1 h; unfold mtLt at this; omega
  trans x y z h1 h2 := by
    rw [mtO_iff] at *; unfold mtLt at *; omega
  ntrans x y z h1 h2 := by
    rw [← Bool.not_eq_true, mtO_iff] at *; unfold mtLt at *; omega
def mts (l : List Mt) : List Value := l.flatMap mtC
theorem mtCmp_any (W : World) (x y : Mt) : Calls Tryz.prog 90 #[.agg (mtC x).toArray, .agg (mtC y).toArray] W fun e w' => e = .returned (.int .i64 (mtO x y)) ∧ ∃ q os, w' = grow (W.drewN q) os := mtCmp_calls x y W

/-- The row of a direction: its signs in their order. -/
structure IsRow (len hour dir : Int) (l : List Sg) (R : List Mt) : Prop where
  perm : R.Perm (selP len hour dir l)
  sorted : R.Pairwise (fun a b => ¬ mtLt b a)

end Go.Proofs.YtmpngoejnmlmbaaGreat
