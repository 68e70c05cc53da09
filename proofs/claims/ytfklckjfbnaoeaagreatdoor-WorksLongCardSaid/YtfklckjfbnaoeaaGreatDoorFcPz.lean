/-
  Parse of the reference.
-/
import Derived.Test.YtfklckjfbnaoeaaGreatDoorFcRi
import Derived.Test.YtfklckjfbnaoeaaGreatDoorFcRf
import Derived.Test.YtfklckjfbnaoeaaGreatDoorWaL
set_option linter.unusedSimpArgs false
set_option linter.unusedVariables false
namespace Go.Proofs.YtfklckjfbnaoeaaGreatDoor
open Go.RowKit

theorem place_len (r : Rdr) : (placeR r).2.2.s.length ≤ r.s.length := by
  have h1 := skip_len [32, 97, 116] r
  have h2 := num_len (skipR [32, 97, 116] r)
  have h3 := num_len (numR (skipR [32, 97, 116] r)).2
  exact Nat.le_trans h3 (Nat.le_trans h2 h1)
theorem itemK_len (kd : List UInt8) (c : Int) (r : Rdr) : (itemK kd c r).2.s.length ≤ r.s.length ∧ (itemK kd c r).1.text.length ≤ r.s.length := by
  have h1 := num_len r
  have h2 := num_len (numR r).2
  have h3 := place_len (numR (numR r).2).2
  have h4 := place_len (numR r).2
  have h5 := text_len (numR r).2
  have h6 := place_len (textR (numR r).2).2
  unfold itemK
  split
  · exact ⟨Nat.le_refl _, Nat.zero_le _⟩
  split
  · exact ⟨h1, Nat.zero_le _⟩
  split
  · exact ⟨Nat.le_trans h3 (Nat.le_trans h2 h1), Nat.zero_le _⟩
  split
  · exact ⟨Nat.le_trans h4 h1, Nat.zero_le _⟩
  split
  · exact ⟨h1, Nat.zero_le _⟩
  split
  · exact ⟨Nat.le_trans h6 (Nat.le_trans h5.1 h1), Nat.le_trans h5.2 h1⟩
  · exact ⟨Nat.le_refl _, Nat.zero_le _⟩
theorem item_len (r : Rdr) : (itemR r).2.s.length ≤ r.s.length ∧ (itemR r).1.text.length ≤ r.s.length := by
  have h1 := (word_len r).1
  have h2 := skip_len [32] (wordR r).2
  have h3 := (word_len (skipR [32] (wordR r).2)).1
  have h4 := itemK_len (wordR r).1 (hitW colourW (wordR (skipR [32] (wordR r).2)).1 8) (wordR (skipR [32] (wordR r).2)).2
  show (itemK _ _ _).2.s.length ≤ _ ∧ (itemK _ _ _).1.text.length ≤ _
  omega

theorem own_mv {w w' : World} {base e size n : Nat} {v : Value} {xs : List Value} {R : Nat} (h : w.ownsRow base e size v n xs) (hm : Mv (· = R) w w') (hR : R < base) : w'.ownsRow base e size v n xs := by
  obtain ⟨h1, h2⟩ := h
  refine ⟨h1, ?_⟩
  rcases h2 with h2 | ⟨g, cap, cur, e1, e2, e3, e4⟩
  · exact .inl h2
  · exact .inr ⟨g, cap, cur, e1, e2, hm.kept e3 (by omega), e4⟩
theorem items_step {m k : Nat} {r : Rdr} (h1 : r.bad = false) (h2 : r.s ≠ []) : itemsR (m + 1) k r = ((itemR (skipR (sepR k) r)).1 :: (itemsR m (k + 1) (itemR (skipR (sepR k) r)).2).1, (itemsR m (k + 1) (itemR (skipR (sepR k) r)).2).2) := by
  rw [itemsR, if_pos ⟨h1, h2⟩]
theorem items_stop {m k : Nat} {r : Rdr} (h : ¬ (r.bad = false ∧ r.s ≠ [])) : itemsR m k r = ([], r) := by
  cases m with
  | zero => rfl
  | succ m => rw [itemsR, if_neg h]
theorem parse_bad {s : List UInt8} (h : (readRf s).2.bad = true) : parseP s = none := by
  rw [← parseR_eq, parseR, if_neg (by rw [h]; simp)]
theorem parse_rest {s : List UInt8} (h : (readRf s).2.s ≠ []) : parseP s = none := by
  rw [← parseR_eq, parseR, if_neg (fun e => h e.2.1)]
theorem parse_wrong {s : List UInt8} (h : ¬ (fcB (readRf s).1 = true ∧ fmtF (readRf s).1 = s)) : parseP s = none := by
  rw [← parseR_eq, parseR, if_neg (fun e => h ⟨e.2.2.1, e.2.2.2⟩)]
theorem parse_right {s : List UInt8} (h1 : (readRf s).2.bad = false) (h2 : (readRf s).2.s = []) (h3 : fcB (readRf s).1 = true) (h4 : fmtF (readRf s).1 = s) : parseP s = some (readRf s).1 := by
  rw [← parseR_eq, parseR, if_pos ⟨h1, h2, h3, h4⟩]

end Go.Proofs.YtfklckjfbnaoeaaGreatDoor
