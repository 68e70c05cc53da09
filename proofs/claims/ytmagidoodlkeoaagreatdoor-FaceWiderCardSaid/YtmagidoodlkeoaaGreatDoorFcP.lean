/-
  Texts of faces in plain Lean: cutting, splitting and joining. No program in sight.
-/
import Derived.Lib.Split
import Derived.Lib.Join
import Derived.Lib.ItoaNum
import Derived.Lib.AtoiAllCases
set_option linter.unusedSimpArgs false
set_option linter.unusedVariables false
namespace Go.Proofs.YtmagidoodlkeoaaGreatDoor
open Go.Lib

theorem index_at {p r sub : List UInt8} (h : ∀ j, j < p.length → occAt (p ++ (sub ++ r)) sub j = false) : index (p ++ (sub ++ r)) sub = p.length :=
  index_first (by simp) (by simp [occAt]) h
/-- The byte d stands in the separator at place i, and not in the text ahead of it. -/
theorem index_free {p r sub : List UInt8} {d : UInt8} (i : Nat) (hd : sub[i]? = some d) (hp : d ∉ p ++ sub.take i) : index (p ++ (sub ++ r)) sub = p.length := by
  have hi : i < sub.length := (List.getElem?_eq_some_iff.1 hd).1
  refine index_at fun j hj => ?_
  cases ho : occAt (p ++ (sub ++ r)) sub j with
  | false => rfl
  | true =>
    exfalso
    have hr : j + sub.length ≤ (p ++ (sub ++ r)).length := by
      rcases occAt_room ho with h | h
      · exact h
      · simp [h] at hi
    rw [occAt_iff_take _ _ _ hr, beq_iff_eq] at ho
    have e : (p ++ (sub ++ r))[j + i]? = some d := by
      have e0 := congrArg (fun l => l[i]?) ho
      simp only [List.getElem?_take_of_lt hi, List.getElem?_drop] at e0
      rw [e0, hd]
    refine hp ?_
    have e2 : (p ++ (sub ++ r))[j + i]? = (p ++ sub.take i)[j + i]? := by
      by_cases h : j + i < p.length
      · rw [List.getElem?_append_left h, List.getElem?_append_left h]
      · have h1 : p.length ≤ j + i := by omega
        have h2 : j + i - p.length < sub.length := by omega
        have h3 : j + i - p.length < i := by omega
        rw [List.getElem?_append_right h1, List.getElem?_append_right h1, List.getElem?_append_left h2, List.getElem?_take_of_lt h3]
    rw [e2] at e
    exact List.mem_of_getElem? e
theorem index_no {s sub : List UInt8} {d : UInt8} (hd : d ∈ sub) (hs : d ∉ s) : index s sub = -1 := by
  refine index_none fun j _ => ?_
  cases ho : occAt s sub j with
  | false => rfl
  | true =>
    exfalso
    refine hs (List.mem_of_mem_drop (i := j) ?_)
    have : sub <+: s.drop j := List.isPrefixOf_iff_prefix.1 ho
    exact this.subset hd
theorem cut_free {p r sub : List UInt8} {d : UInt8} (i : Nat) (hd : sub[i]? = some d) (hp : d ∉ p ++ sub.take i) : cut (p ++ (sub ++ r)) sub = (p, r, true) := by
  unfold cut
  rw [index_free i hd hp, if_pos (by omega)]
  have e : ((p.length : Int)).toNat = p.length := by omega
  rw [e]
  simp
theorem cut_no {s sub : List UInt8} {d : UInt8} (hd : d ∈ sub) (hs : d ∉ s) : cut s sub = (s, [], false) := by
  unfold cut
  rw [index_no hd hs, if_neg (by omega)]
theorem split_join {c : UInt8} {t : List UInt8} (x : List UInt8) (ws : List (List UInt8)) (h : ∀ w ∈ x :: ws, c ∉ w) : split (join (x :: ws) (c :: t)) (c :: t) = x :: ws := by
  unfold split
  induction ws generalizing x with
  | nil =>
    rw [join_one]
    have hi := index_no (s := x) (sub := c :: t) (d := c) (by simp) (h x (by simp))
    rw [count_miss hi]
    rfl
  | cons y ws ih =>
    have e : join (x :: y :: ws) (c :: t) = x ++ ((c :: t) ++ join (y :: ws) (c :: t)) := by
      rw [join_cons, join_cons]
      simp [joinTail]
    have hi : index (join (x :: y :: ws) (c :: t)) (c :: t) = x.length := by
      rw [e]
      exact index_free 0 rfl (by simpa using h x (by simp))
    have e1 : (join (x :: y :: ws) (c :: t)).drop (x.length + (c :: t).length) = join (y :: ws) (c :: t) := by
      rw [e, ← List.append_assoc, ← List.length_append]
      exact List.drop_left
    rw [count_hit (by simp) hi, e1, Nat.add_comm, splitK, if_neg (by rw [hi]; simp), hi]
    have e2 : ((x.length : Int)).toNat = x.length := by omega
    rw [e2, e1, ih y (fun w hw => h w (by simp at hw ⊢; exact .inr hw))]
    congr 1
    rw [e, Nat.add_zero, List.take_left]

end Go.Proofs.YtmagidoodlkeoaaGreatDoor
