/-
  The reference's Format, and the law FaceFormats.
-/
import Derived.Test.YtfklckjfbnaoeaaGreatDoorFcWr
import Derived.Test.YtfklckjfbnaoeaaGreatDoorWaP
import Derived.Test.YtfklckjfbnaoeaaGreatDoorFcFo
set_option linter.unusedSimpArgs false
set_option linter.unusedVariables false
namespace Go.Proofs.YtfklckjfbnaoeaaGreatDoor
open Go.RowKit

/-- The text of a face with its first k items. -/
def txtK (f : Fc) (k : Nat) : List UInt8 := Lib.join (headF f) [32] ++ tailF 0 (f.items.take k)
theorem tailF_snoc (x : It) : ∀ (l : List It) (i : Nat), tailF i (l ++ [x]) = tailF i l ++ (sepR (i + l.length) ++ fmtIt x)
  | [], i => by simp [tailF]
  | y :: l, i => by
    rw [List.cons_append, tailF, tailF, tailF_snoc x l (i + 1)]
    simp [show i + 1 + l.length = i + (l.length + 1) by omega]
theorem txtK_succ {f : Fc} {k : Nat} (h : k < f.items.length) : txtK f (k + 1) = txtK f k ++ (sepR k ++ fmtIt f.items[k]) := by
  unfold txtK
  rw [List.take_succ_eq_append_getElem h, tailF_snoc]
  simp [List.length_take, Nat.min_eq_left (Nat.le_of_lt h)]
theorem txtK_all (f : Fc) {k : Nat} (h : f.items.length ≤ k) : txtK f k = fmtF f := by
  unfold txtK
  rw [List.take_of_length_le h, fmtF_tail]
theorem txtK_zero (f : Fc) : txtK f 0 = Lib.join (headF f) [32] := by simp [txtK, tailF]
theorem txtK_len {f : Fc} (hf : fcB f = true) (h0 : (Lib.join (headF f) [32]).length ≤ 18) : ∀ k, k ≤ f.items.length → (txtK f k).length ≤ 18 + k * 102
  | 0, _ => by rw [txtK_zero]; omega
  | k + 1, h => by
    have ih := txtK_len hf h0 k (by omega)
    have hi := fmtIt_len (items_valid hf _ (List.getElem_mem (show k < f.items.length by omega)))
    rw [txtK_succ (by omega)]
    have hs : (sepR k).length = 2 := by unfold sepR; split <;> rfl
    simp only [List.length_append, hs]
    omega

theorem SB_three (a b d : List UInt8) : (SB a ++ SB b) ++ SB d = SB (a ++ (b ++ d)) := by
  rw [SB_add, SB_add, List.append_assoc]

end Go.Proofs.YtfklckjfbnaoeaaGreatDoor
