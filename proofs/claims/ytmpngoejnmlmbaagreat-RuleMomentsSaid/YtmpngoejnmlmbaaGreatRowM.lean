/-
  The row of a direction, named; the gaps of a line. Plain: no walk.
-/
import Derived.Test.YtmpngoejnmlmbaaGreatGapR
import Derived.Test.YtmpngoejnmlmbaaGreatSilenceP
import Derived.Test.YtmpngoejnmlmbaaGreatRefKit
set_option linter.unusedSimpArgs false
set_option linter.unusedVariables false
namespace Go.Proofs.YtmpngoejnmlmbaaGreat
open Go.RowKit

theorem isRow_of_ins {len hour dir : Int} {l R2 : List Sg} (h2 : InsRow len hour dir l R2) : IsRow len hour dir l (mtl len dir R2) := by
  refine ⟨h2.perm.map _, ?_⟩
  unfold mtl
  rw [List.pairwise_map]
  refine List.Pairwise.imp_of_mem (fun {a b} ha hb h => ?_) h2.sorted
  have ea : a.dir = dir := by have := h2.perm.subset ha; simp [selS] at this; exact this.2.1
  have eb : b.dir = dir := by have := h2.perm.subset hb; simp [selS] at this; exact this.2.1
  simpa [sgLt, mtOf, ea, eb] using h

open Classical in
noncomputable def rowM (len hour dir : Int) (l : List Sg) : List Mt := if h : ∃ R, IsRow len hour dir l R then h.choose else []
theorem rowM_eq {len hour dir : Int} {l : List Sg} {R : List Mt} (h : IsRow len hour dir l R) (hn : (l.map Sg.num).Nodup) : R = rowM len hour dir l := by
  have hx : ∃ R, IsRow len hour dir l R := ⟨R, h⟩
  rw [rowM, dif_pos hx]
  exact row_unique h hx.choose_spec (List.Perm.refl _) hn
theorem rowM_ins {len hour dir : Int} {l R2 : List Sg} (h : InsRow len hour dir l R2) (hn : (l.map Sg.num).Nodup) : mtl len dir R2 = rowM len hour dir l := rowM_eq (isRow_of_ins h) hn

noncomputable def holdM (n : Nat) (js : List Int) (l : List Sg) (hour : Int) (topic dir : Int) : List Int := holdS n js (rowM n hour dir l) dir topic
def mustM (n : Nat) (ed : List Ed) (hour : Int) (topic dir : Int) : List Int := mustS n ed hour dir topic
noncomputable def gapsP (n : Nat) (js : List Int) (l : List Sg) (ed : List Ed) (hour : Int) : Nat → List Gp := gpAll n (holdM n js l hour) (mustM n ed hour)
theorem gapsP_succ (n : Nat) (js : List Int) (l : List Sg) (ed : List Ed) (hour : Int) (i : Nat) :
    gapsP n js l ed hour (i + 1) = gpRun (topI i) (dirI i) (gapsP n js l ed hour i).length (holdM n js l hour (topI i) (dirI i)) (mustM n ed hour (topI i) (dirI i)) (gapsP n js l ed hour i) n := rfl
theorem gapsP_len (n : Nat) (js : List Int) (l : List Sg) (ed : List Ed) (hour : Int) (i : Nat) : (gapsP n js l ed hour i).length ≤ i * n := gpAll_len _ _ _ _
theorem gapsP_part (n : Nat) (js : List Int) (l : List Sg) (ed : List Ed) (hour : Int) (i : Nat) (hi : i < 4) : PartOk (topI i) (dirI i) (gapsP n js l ed hour i).length (gapsP n js l ed hour i) := gpAll_part _ _ _ _ hi

def CmpPost (len : Int) (js : List Int) (l : List Sg) (ed : List Ed) (hour : Int) (w : World) (e : Ending) (w' : World) : Prop :=
  ∃ (A' : Option Addr) (c' : Nat) (G : List Gp), e = .returned (.tuple #[.slice A' G.length c', .int .i64 (allE len js l ed hour)]) ∧
    (allE len js l ed hour = 0 → G = gapsP len.toNat js l ed hour 4) ∧ (allE len js l ed hour ≠ 0 → G = []) ∧ Rd w' A' (gps G) ∧ G.length ≤ 400000 ∧ Below w.heap.size w w'

end Go.Proofs.YtmpngoejnmlmbaaGreat
