/-
  The two rows, of package rule and of its reference, hold the same signs in the same order.
-/
import Derived.Test.YtmpngoejnmlmbaaGreatRefRow
set_option linter.unusedSimpArgs false
set_option linter.unusedVariables false
namespace Go.Proofs.YtmpngoejnmlmbaaGreat
open Go.RowKit

theorem map_inj_of {α : Type} {f : α → Int} {l : List α} (h : (l.map f).Nodup) {a b : α} (ha : a ∈ l) (hb : b ∈ l) (e : f a = f b) : a = b := by
  induction l with
  | nil => cases ha
  | cons x l ih =>
    rw [List.map_cons, List.nodup_cons] at h
    rcases List.mem_cons.1 ha with h1 | h1
    · rcases List.mem_cons.1 hb with h2 | h2
      · rw [h1, h2]
      · rw [h1] at e; exact absurd (e ▸ List.mem_map_of_mem h2) h.1
    · rcases List.mem_cons.1 hb with h2 | h2
      · rw [h2] at e; exact absurd (e ▸ List.mem_map_of_mem h1) h.1
      · exact ih h.2 h1 h2

theorem row_eq {len hour dir : Int} {l : List Sg} {R : List Mt} {R2 : List Sg} (h : IsRow len hour dir l R) (h2 : InsRow len hour dir l R2) (hn : (l.map Sg.num).Nodup) :
    R = R2.map (fun s => ⟨s, distI len dir s.chain⟩) := by
  have hp2 : (R2.map (fun s => (⟨s, distI len dir s.chain⟩ : Mt))).Perm (selP len hour dir l) := h2.perm.map _
  have hnd : ((selP len hour dir l).map (fun m => m.s.num)).Nodup := by
    simp only [selP, List.map_map]
    exact hn.sublist ((List.filter_sublist).map _)
  refine List.Perm.eq_of_pairwise (le := fun a b => ¬ mtLt b a) (fun a b ha hb h3 h4 => ?_) h.sorted ?_ (h.perm.trans hp2.symm)
  · refine map_inj_of hnd (h.perm.subset ha) (hp2.subset hb) ?_
    unfold mtLt at h3 h4; omega
  · rw [List.pairwise_map]
    refine List.Pairwise.imp_of_mem (fun {a b} ha hb h => ?_) h2.sorted
    have ea : a.dir = dir := by have := h2.perm.subset ha; simp [selS] at this; exact this.2.1
    have eb : b.dir = dir := by have := h2.perm.subset hb; simp [selS] at this; exact this.2.1
    simpa [sgLt, mtOf, ea, eb] using h

theorem row_nums {len hour dir : Int} {l : List Sg} {R : List Mt} {R2 : List Sg} (h : IsRow len hour dir l R) (h2 : InsRow len hour dir l R2) (hn : (l.map Sg.num).Nodup) :
    R.map (fun m => m.s.num) = R2.map Sg.num := by
  rw [row_eq h h2 hn, List.map_map]; rfl

theorem sgsB_nodup {len : Int} {js : List Int} {l : List Sg} (h : sgsB len js l = true) : (l.map Sg.num).Nodup := by
  simp [sgsB] at h; exact h.2

end Go.Proofs.YtmpngoejnmlmbaaGreat
