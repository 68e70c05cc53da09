/-
  Seams, as the walks need them: letter by letter, item by item, seam by seam. No program in sight.
-/
import Derived.Test.YtmagidoodlkeoaaGreatDoorFcT
import Derived.Test.YtmagidoodlkeoaaGreatDoorFcW
set_option linter.unusedSimpArgs false
set_option linter.unusedVariables false
namespace Go.Proofs.YtmagidoodlkeoaaGreatDoor

theorem cut_letter {x : It} {c : Int} {k : Nat} (h6 : x.kind = 6) (hk : k < x.text.length) (h : x.text.getD k 0 ≠ 32) (h1 : x.left + 6 * x.a * k < c) (h2 : c < x.left + 6 * x.a * k + 5 * x.a) : cutIt x c = true := by
  unfold cutIt
  simp only [Bool.and_eq_true, decide_eq_true_eq, List.any_eq_true, List.mem_range]
  exact ⟨h6, k, hk, h, h1, h2⟩
theorem cut_none {x : It} {c : Int} {n : Nat} (hn : x.text.length ≤ n) (h : ∀ k, k < n → x.text.getD k 0 = 32 ∨ ¬ x.left + 6 * x.a * k < c ∨ ¬ c < x.left + 6 * x.a * k + 5 * x.a) : cutIt x c = false := by
  cases e : cutIt x c with
  | false => rfl
  | true =>
    unfold cutIt at e
    simp only [Bool.and_eq_true, decide_eq_true_eq, List.any_eq_true, List.mem_range] at e
    obtain ⟨-, k, hk, h0, h1, h2⟩ := e
    rcases h k (by omega) with h | h | h
    · exact absurd h h0
    · exact absurd h1 h
    · exact absurd h2 h
theorem cut_other {x : It} {c : Int} (h : x.kind ≠ 6) : cutIt x c = false := by unfold cutIt; simp [h]
theorem cutF_hit {f : Fc} {c : Int} {k : Nat} (hk : k < f.items.length) (h : cutIt f.items[k] c = true) : cutF f c = true := by
  unfold cutF
  rw [List.any_eq_true]
  exact ⟨_, List.getElem_mem hk, h⟩
theorem cutF_no {f : Fc} {c : Int} {k : Nat} (hk : f.items.length ≤ k) (h : ∀ j (hj : j < f.items.length), j < k → cutIt f.items[j] c = false) : cutF f c = false := by
  unfold cutF
  rw [List.any_eq_false]
  intro x hx
  obtain ⟨j, hj, rfl⟩ := List.mem_iff_getElem.1 hx
  simp [h j hj (by omega)]
theorem dnS_cut {f : Fc} {a : Int} {k : Nat} (h : cutF f (a + (k + 1 : Nat)) = true) : dnS f a (k + 1) = dnS f a k := by rw [dnS, if_pos h]
theorem dnS_stop {f : Fc} {a : Int} {k : Nat} (h : cutF f (a + (k + 1 : Nat)) = false) : dnS f a (k + 1) = a + (k + 1 : Nat) := by rw [dnS, if_neg (by rw [h]; decide)]

/-- The seams up to the column a are acc. -/
structure SeamI (f : Fc) (width : Nat) (a : Int) (acc : List Int) : Prop where
  lo : 0 ≤ a
  hi : a ≤ f.size
  len : (acc.length : Int) ≤ a
  way : ∃ m : Nat, f.size ≤ a + m ∧ seamsP f width = (seamsN f width m a).map (acc ++ ·)
theorem SeamI.start {f : Fc} {width : Nat} (h : 0 ≤ f.size ∧ f.size ≤ 200) : SeamI f width 0 [] := ⟨by omega, h.1, by simp, 200, by omega, by
  unfold seamsP
  cases seamsN f width 200 0 <;> simp⟩
theorem SeamI.fin {f : Fc} {width : Nat} {a : Int} {acc : List Int} (h : SeamI f width a acc) (he : f.size - a ≤ width) : seamsP f width = some acc := by
  obtain ⟨m, -, e⟩ := h.way
  rw [e]
  cases m with
  | zero => simp [seamsN]
  | succ m => simp [seamsN, he]
theorem SeamI.stuck {f : Fc} {width : Nat} {a : Int} {acc : List Int} (h : SeamI f width a acc) (he : ¬ f.size - a ≤ width) (hd : dnS f a width = a) : seamsP f width = none := by
  obtain ⟨m, hm, e⟩ := h.way
  rw [e]
  cases m with
  | zero => omega
  | succ m => simp [seamsN, he, hd]
theorem SeamI.next {f : Fc} {width : Nat} {a : Int} {acc : List Int} (h : SeamI f width a acc) (he : ¬ f.size - a ≤ width) (hd : dnS f a width ≠ a) : SeamI f width (dnS f a width) (acc ++ [dnS f a width]) := by
  obtain ⟨m, hm, e⟩ := h.way
  obtain ⟨b1, b2⟩ := dnS_bounds f a width
  have h1 := h.lo
  have h2 := h.len
  refine ⟨by omega, by omega, by simp; omega, ?_⟩
  cases m with
  | zero => omega
  | succ m =>
    refine ⟨m, by omega, ?_⟩
    rw [e, seamsN, if_neg he, if_neg hd, Option.map_map]
    congr 1
    funext l
    simp

end Go.Proofs.YtmagidoodlkeoaaGreatDoor
