/-
  slices.SortFunc over structs, on a row that the call itself owns: the row holds a sorted permutation behind it, and nothing else has turned.
-/
import Derived.Test.YtegghimjmbgghaaGreatKit
import Derived.Shelf.SlSortCmp.WholeK
import Derived.Shelf.SlSortCmp.NoneTotal
set_option linter.unusedSimpArgs false
set_option linter.unusedVariables false
namespace Go.Proofs.YtegghimjmbgghaaGreat
open Go.Shelf Go.Sort

theorem getElem!_eq_of {α : Type} [Inhabited α] {a : Array α} {b : List α} {i : Nat} (h : i < a.size) (hb : b[i]? = some a[i]!) : a[i]? = b[i]? := by
  rw [hb, Array.getElem?_eq_getElem h, getElem!_pos a i h]

theorem flatK_list {α : Type} [Inhabited α] (enc : α → List Value) (k : Nat) (hk : ∀ x, (enc x).length = k) (l : List α) : (flatK enc k l.toArray).toList = l.flatMap enc := by
  apply List.ext_getElem?
  intro t
  by_cases ht : t < l.length * k
  · have hk0 : 0 < k := by rcases Nat.eq_zero_or_pos k with h | h; · subst h; simp at ht
                           · exact h
    have hd : t / k < l.length := Nat.div_lt_of_lt_mul (by rw [Nat.mul_comm]; exact ht)
    have hm : t % k < k := Nat.mod_lt _ hk0
    have h1 : (flatK enc k l.toArray)[t]! = (enc l.toArray[t / k]!)[t % k]! := get_flatK enc k _ t (by simpa using ht)
    have h2 := flat_at (f := enc) hk l (t / k) (t % k) hd hm
    rw [Nat.mul_comm (t / k) k, Nat.div_add_mod] at h2
    rw [h2, Array.getElem?_toList, Array.getElem?_eq_getElem (by simpa using ht), ← getElem!_pos (flatK enc k l.toArray) t (by simpa using ht), h1]
    have h3 : l.toArray[t / k]! = l[t / k] := by rw [getElem!_pos l.toArray (t / k) (by simpa using hd)]; simp
    rw [h3, List.getElem!_eq_getElem?_getD, List.getElem?_eq_getElem (by rw [hk]; exact hm)]
    simp
  · rw [List.getElem?_eq_none (by simp; omega), List.getElem?_eq_none (by rw [flat_len hk]; omega)]

theorem putCells_take (F : Array Value) (cur : Array Value) (h : F.size ≤ cur.size) : (putCells id 0 F cur).toList.take F.size = F.toList := by
  apply List.ext_getElem?
  intro t
  by_cases ht : t < F.size
  · rw [List.getElem?_take_of_lt ht, Array.getElem?_toList, Array.getElem?_toList, putCells, Array.getElem?_mapIdx, Array.getElem?_eq_getElem (by omega), Option.map_some]
    simp [ht, getElem!_pos F t ht]
  · rw [List.getElem?_eq_none (by simp; omega), List.getElem?_eq_none (by simp; omega)]

variable {P : Program} {ρ : Ren} {α : Type} [Inhabited α]

theorem sortWorldK_grownBy (enc : α → List Value) (k : Nat) (w : World) (blk m : Nat) (d : Array α) (os : Array Obj) : w.grownBy (sortWorldK enc k w blk 0 m d os) (some blk) := by
  refine ⟨rfl, rfl, rfl, size_sortWorldK_c enc k w blk 0 m d os, fun i hi hne => ?_⟩
  show ((w.heap.modify blk _) ++ os)[i]? = _
  rw [Array.getElem?_append_left (by simpa using hi), Array.getElem?_modify, if_neg (by intro e; exact hne (by rw [e]))]

theorem sortK (L : SlLaysF0.n6 P ρ) (k : Nat) (hk0 : 0 < k) (aE : ∀ w, (isAgg (ρ.t 24)).run P w = .ok true w) (zE : ∀ w, (Go.sizeOf (ρ.t 24)).run P w = .ok k w) (enc : α → List Value) (hk : ∀ x, (enc x).length = k) (h1 : ∀ x, ∀ v ∈ enc x, v.oneCell' = true)
    (cf : α → α → Int) (hO : SWO (ltOf cf)) (g : Nat) (eg : ∀ args w, (callFunc g args).run P w = .ok (.enter g args) w)
    (hcmp : ∀ (W : World) (x y : α), Calls P g #[.agg (enc x).toArray, .agg (enc y).toArray] W fun e w' => e = .returned (.int .i64 (cf x y)) ∧ ∃ q os, w' = grow (W.drewN q) os)
    (l : List α) (v : Value) (base e : Nat) (w : World) (hown : w.ownsRow base e k v l.length (l.flatMap enc)) (hl : l.length < 4611686018427387904) :
    Calls P (ρ.f 6) #[v, .func (.func g) #[] #[]] w fun e' w' => e' = .returned (.tuple #[]) ∧ ∃ l' : List α, l'.Perm l ∧ l'.Pairwise (fun a b => ltOf cf b a = false) ∧ w'.ownsRow base e k v l.length (l'.flatMap enc) ∧ w.grownBy w' v.ownBlock := by
  have hown0 := hown
  obtain ⟨hlen, hform⟩ := hown
  by_cases h0 : l.length = 0
  · have hl0 : l = [] := List.eq_nil_of_length_eq_zero h0
    subst hl0
    have hend : ∀ w', w' = w → ∃ l' : List α, l'.Perm [] ∧ l'.Pairwise (fun a b => ltOf cf b a = false) ∧ w'.ownsRow base e k v 0 (l'.flatMap enc) ∧ w.grownBy w' v.ownBlock := by
      rintro w' rfl
      exact ⟨[], List.Perm.nil, List.Pairwise.nil, hown0, World.grownBy.refl w' _⟩
    rcases hform with ⟨rfl, _⟩ | ⟨g', cap, cur, rfl, _⟩
    · exact (AnyF.slices_SortFunc_none L none 0 _ w).mono fun _ w' h => ⟨h.1, hend w' h.2⟩
    · exact (AnyF.slices_SortFunc_none L _ cap _ w).mono fun _ w' h => ⟨h.1, hend w' h.2⟩
  · rcases hform with ⟨_, hn⟩ | ⟨b, cap, cur, rfl, hb, hh, hnc, hcap, hcs, htk⟩
    · exact absurd hn h0
    · have hblk : b < w.heap.size := (Array.getElem?_eq_some_iff.1 hh).1
      have hcur : l.length * k ≤ cur.size := by rw [hcs]; exact Nat.mul_le_mul_right k hnc
      have hF : (flatK enc k l.toArray).toList = l.flatMap enc := flatK_list enc k hk l
      have hHolds : HoldsK enc k w b 0 l.toArray := by
        intro j hj
        have hj' : j < l.length * k := by simpa using hj
        have hc1 : cur[j]? = (flatK enc k l.toArray)[j]? := by
          rw [← Array.getElem?_toList, ← Array.getElem?_toList, hF, ← htk, List.getElem?_take_of_lt hj']
        refine ⟨?_, by simp [World.frozen?, hh]⟩
        rw [Nat.zero_add, cell_of_row w b j cur e (0, 0) hh, hc1, Array.getElem?_eq_getElem hj, getElem!_pos (flatK enc k l.toArray) j hj]; rfl
      have hs := AnyQ.slices_SortFunc L k aE zE enc hk h1 cf hO g #[] b 0 cap l.toArray w eg (fun m os dk _ x y => hcmp _ x y) hHolds hblk (by simpa using hl)
      refine hs.mono fun e' w' ⟨he, d', n, os, hp, hsrt, hw⟩ => ⟨he, d'.toList, ?_, ?_, ?_, ?_⟩
      · have h3 := hp.2.2
        have hsz : d'.size = l.length := by simpa using hp.1
        have e1 : (d'.extract 0 l.toArray.size).toList = d'.toList := by rw [show l.toArray.size = d'.size by simp [hsz], Array.extract_size]
        have e2 : (l.toArray.extract 0 l.toArray.size).toList = l := by rw [Array.extract_size]
        rw [e1, e2] at h3
        exact h3
      · have hsz : d'.size = l.length := by simpa using hp.1
        rw [List.pairwise_iff_getElem]
        intro i j hi hj hij
        have h4 := hsrt i j (Nat.zero_le _) hij (by simpa [hsz] using hj)
        rw [getElem!_pos d' j (by simpa using hj), getElem!_pos d' i (by simpa using hi)] at h4
        simpa using h4
      · have hsz : d'.size = l.length := by simpa using hp.1
        have hflat : (flatK enc k d').toList = d'.toList.flatMap enc := by
          have := flatK_list enc k hk d'.toList
          simpa using this
        refine ⟨by rw [flat_len hk]; simp [hsz], Or.inr ⟨b, cap, putCells id 0 (flatK enc k d') cur, rfl, hb, ?_, hnc, hcap, ?_, ?_⟩⟩
        · rw [hw]
          show ((w.heap.modify b _) ++ os)[b]? = _
          rw [Array.getElem?_append_left (by simpa using hblk), Array.getElem?_modify, if_pos rfl, hh]
          rfl
        · simp [putCells, hcs]
        · have := putCells_take (flatK enc k d') cur (by simpa [hsz] using hcur)
          rw [← hflat, ← this]
          congr 1
          simp [hsz]
      · rw [hw]
        exact sortWorldK_grownBy enc k w b n d' os

end Go.Proofs.YtegghimjmbgghaaGreat
