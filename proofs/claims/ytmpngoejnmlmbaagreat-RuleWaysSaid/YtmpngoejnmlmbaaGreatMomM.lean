/-
  Moments, and what a metre was told. Plain: no walk. The keys of a map of hours, sorted; slices.Compact. A region that draws its order, under a condition on the world that may fail behind the region's last operation, which waits for all others: an append to a variable that the region itself loads. Package rule's moments. Lists of what a metre was told; the append that makes a history's hours; the bounds of moments.
-/
import Derived.Test.YtmpngoejnmlmbaaGreatRowG
import Derived.Test.YtmpngoejnmlmbaaGreatHist
import Derived.Shelf.SlIterI.Nil
import Derived.Shelf.SortM.Plain
import Derived.Shelf.SortM.SortNone
import Derived.Shelf.Slices.CompactI
import Derived.Maps.OwnSet
import Derived.Deep.RegionHeld3
import Derived.Deep.AppendLies
import Derived.StillTailTactics
import Derived.Test.YtmpngoejnmlmbaaGreatKit
import Derived.Test.YtmpngoejnmlmbaaGreatKit2
import Derived.Maps.Own
import Derived.Maps.Views
import Derived.Deep.DeepCutAuto
import Derived.Test.YtmpngoejnmlmbaaGreatHolds2
import Derived.Test.YtmpngoejnmlmbaaGreatCmpK
set_option linter.unusedSimpArgs false
set_option linter.unusedVariables false
namespace Go.Proofs.YtmpngoejnmlmbaaGreat
open Go.RowKit

section
/-- The hours that a sign names; those that signs and edicts name. -/
def sgH (s : Sg) : List Int := [s.up, s.down] ++ s.cov.flatMap fun c => [c.1, c.2]
def edH (e : Ed) : List Int := [e.st, e.en]
def momH (l : List Sg) (ed : List Ed) : List Int := l.flatMap sgH ++ ed.flatMap edH
/-- These hours in their order, each once, without those behind the last one. -/
def Mom (hs L : List Int) : Prop := L.Pairwise (· < ·) ∧ ∀ x, x ∈ L ↔ x ∈ hs ∧ x ≤ 10000000
theorem asc_unique {L L2 : List Int} (h : L.Pairwise (· < ·)) (h2 : L2.Pairwise (· < ·)) (he : ∀ x, x ∈ L ↔ x ∈ L2) : L = L2 := by
  have nd : L.Nodup := h.imp fun {a b} h => by omega
  have nd2 : L2.Nodup := h2.imp fun {a b} h => by omega
  have hp : L.Perm L2 := (List.perm_ext_iff_of_nodup nd nd2).2 he
  exact List.Perm.eq_of_pairwise (le := (· < ·)) (fun a b _ _ h3 h4 => by omega) h h2 hp
theorem Mom.unique {hs L L2 : List Int} (h : Mom hs L) (h2 : Mom hs L2) : L = L2 := asc_unique h.1 h2.1 fun x => (h.2 x).trans (h2.2 x).symm
theorem Mom.nil : Mom [] [] := ⟨List.Pairwise.nil, by simp⟩
theorem mom_over {hs L : List Int} {h : Int} (hm : Mom hs L) (hb : 10000000 < h) : Mom (hs ++ [h]) L := ⟨hm.1, fun x => by
  rw [hm.2 x, List.mem_append, List.mem_singleton]
  constructor
  · rintro ⟨a, b⟩; exact ⟨.inl a, b⟩
  · rintro ⟨a | a, b⟩
    · exact ⟨a, b⟩
    · omega⟩
theorem mom_has {hs L : List Int} {h : Int} (hm : Mom hs L) (hb : h ∈ L) : Mom (hs ++ [h]) L := ⟨hm.1, fun x => by
  rw [hm.2 x, List.mem_append, List.mem_singleton]
  constructor
  · rintro ⟨a, b⟩; exact ⟨.inl a, b⟩
  · rintro ⟨a | a, b⟩
    · exact ⟨a, b⟩
    · subst a; exact (hm.2 x).1 hb⟩
theorem mom_ins {hs L : List Int} {h : Int} {k : Nat} (hm : Mom hs L) (hk : k ≤ L.length) (h1 : ∀ j (hj : j < L.length), k ≤ j → h < L[j]) (h2 : ∀ h0 : 0 < k, L[k - 1]'(by omega) < h) (hb : h ≤ 10000000) : Mom (hs ++ [h]) (L.take k ++ h :: L.drop k) := by
  refine ⟨?_, fun x => ?_⟩
  · rw [List.pairwise_append]
    refine ⟨hm.1.sublist (List.take_sublist _ _), ?_, fun a ha b hb => ?_⟩
    · rw [List.pairwise_cons]
      refine ⟨fun b hb => ?_, hm.1.sublist (List.drop_sublist _ _)⟩
      obtain ⟨j, hj, rfl⟩ := List.mem_iff_getElem.1 hb
      rw [List.length_drop] at hj
      rw [List.getElem_drop]
      exact h1 _ (by omega) (by omega)
    · have hs := hm.1
      rw [List.pairwise_iff_getElem] at hs
      obtain ⟨i, hi, rfl⟩ := List.mem_iff_getElem.1 ha
      rw [List.length_take] at hi
      rw [List.getElem_take]
      have hx : L[i] < h := by
        by_cases e : i = k - 1
        · subst e; exact h2 (by omega)
        · have := hs i (k - 1) (by omega) (by omega) (by omega); have := h2 (by omega); omega
      rcases List.mem_cons.1 hb with rfl | hb
      · exact hx
      · obtain ⟨j, hj, rfl⟩ := List.mem_iff_getElem.1 hb
        rw [List.length_drop] at hj
        rw [List.getElem_drop]
        have := h1 (k + j) (by omega) (by omega); omega
  · have hd : x ∈ L.take k ++ h :: L.drop k ↔ x ∈ L ∨ x = h := by
      conv => rhs; rw [← List.take_append_drop k L]
      simp only [List.mem_append, List.mem_cons]
      constructor
      · rintro (a | a | a) <;> simp [a]
      · rintro ((a | a) | a) <;> simp [a]
    rw [hd, hm.2 x, List.mem_append, List.mem_singleton]
    constructor
    · rintro (⟨a, b⟩ | a)
      · exact ⟨.inl a, b⟩
      · exact ⟨.inr a, by omega⟩
    · rintro ⟨a | a, b⟩
      · exact .inl ⟨a, b⟩
      · exact .inr a
theorem Mom.congr {hs hs' L : List Int} (h : Mom hs L) (he : ∀ x, x ∈ hs ↔ x ∈ hs') : Mom hs' L := ⟨h.1, fun x => (h.2 x).trans (by rw [he x])⟩

/-- What is compared. -/
theorem spk_same {s : Sg} {h h2 : Int} (hh : h ≤ 10000000) (hh2 : h2 ≤ 10000000) (hm : ∀ x ∈ sgH s, x ≤ 10000000 → (x ≤ h ↔ x ≤ h2)) : spkB s h = spkB s h2 := by
  have key : ∀ x ∈ sgH s, (x ≤ h ↔ x ≤ h2) := fun x hx => by
    by_cases hb : x ≤ 10000000
    · exact hm x hx hb
    · constructor <;> intro h5 <;> omega
  have hu := key s.up (by simp [sgH])
  have hd := key s.down (by simp [sgH])
  have hc : (s.cov.any fun c => decide (c.1 ≤ h) && decide (h < c.2)) = (s.cov.any fun c => decide (c.1 ≤ h2) && decide (h2 < c.2)) := by
    rw [Bool.eq_iff_iff, List.any_eq_true, List.any_eq_true]
    have hcov : ∀ c ∈ s.cov, (c.1 ≤ h ↔ c.1 ≤ h2) ∧ (c.2 ≤ h ↔ c.2 ≤ h2) := fun c hc =>
      ⟨key c.1 (by simp only [sgH, List.mem_append, List.mem_flatMap]; exact .inr ⟨c, hc, by simp⟩), key c.2 (by simp only [sgH, List.mem_append, List.mem_flatMap]; exact .inr ⟨c, hc, by simp⟩)⟩
    constructor
    · rintro ⟨c, hc, h5⟩
      refine ⟨c, hc, ?_⟩
      have := hcov c hc
      simp only [Bool.and_eq_true, decide_eq_true_eq] at *
      omega
    · rintro ⟨c, hc, h5⟩
      refine ⟨c, hc, ?_⟩
      have := hcov c hc
      simp only [Bool.and_eq_true, decide_eq_true_eq] at *
      omega
  have e1 : decide (s.up ≤ h) = decide (s.up ≤ h2) := by rw [decide_eq_decide]; exact hu
  have e2 : decide (h < s.down) = decide (h2 < s.down) := by rw [decide_eq_decide]; omega
  unfold spkB
  rw [e1, e2, hc]
theorem selP_same {n h h2 dir : Int} {l : List Sg} (hh : h ≤ 10000000) (hh2 : h2 ≤ 10000000) (hm : ∀ x ∈ l.flatMap sgH, x ≤ 10000000 → (x ≤ h ↔ x ≤ h2)) : selP n h dir l = selP n h2 dir l := by
  unfold selP
  congr 1
  refine List.filter_congr fun s hs => ?_
  rw [spk_same hh hh2 (fun x hx => hm x (List.mem_flatMap.2 ⟨s, hs, hx⟩))]
theorem rowM_same {n h h2 dir : Int} {l : List Sg} {R R2 : List Mt} (hr : IsRow n h dir l R) (hr2 : IsRow n h2 dir l R2) (hn : (l.map Sg.num).Nodup) (hh : h ≤ 10000000) (hh2 : h2 ≤ 10000000) (hm : ∀ x ∈ l.flatMap sgH, x ≤ 10000000 → (x ≤ h ↔ x ≤ h2)) : R = R2 :=
  row_unique hr (l' := l) (R2 := R2) ⟨by rw [selP_same hh hh2 hm]; exact hr2.perm, hr2.sorted⟩ (List.Perm.refl _) hn
theorem mustP_same {ed : List Ed} {h h2 dir topic m : Int} (hh : h ≤ 10000000) (hh2 : h2 ≤ 10000000) (hm : ∀ x ∈ ed.flatMap edH, x ≤ 10000000 → (x ≤ h ↔ x ≤ h2)) : mustP ed h dir topic m = mustP ed h2 dir topic m := by
  have hit : ∀ e ∈ ed, edHit h dir topic m e = edHit h2 dir topic m e := fun e he => by
    have k1 := hm e.st (List.mem_flatMap.2 ⟨e, he, by simp [edH]⟩)
    have k2 := hm e.en (List.mem_flatMap.2 ⟨e, he, by simp [edH]⟩)
    have e1 : decide (e.st ≤ h) = decide (e.st ≤ h2) := by rw [decide_eq_decide]; omega
    have e2 : decide (h < e.en) = decide (h2 < e.en) := by rw [decide_eq_decide]; omega
    unfold edHit
    rw [e1, e2]
  unfold mustP mustRun
  congr 1
  have key : ∀ (L : List Ed) (st : Int × Int), (∀ e ∈ L, e ∈ ed) → L.foldl (mustStep h dir topic m) st = L.foldl (mustStep h2 dir topic m) st := by
    intro L
    induction L with
    | nil => intro st _; rfl
    | cons e L ih =>
      intro st hL
      rw [List.foldl_cons, List.foldl_cons, ih _ (fun x hx => hL x (by simp [hx]))]
      congr 1
      unfold mustStep
      rw [hit e (hL e (by simp))]
  exact key ed (0, 0) (fun _ h => h)

/-! told -/
structure Td where
  fr : Int
  til : Int
  val : Int
def tdC (t : Td) : List Value := [.int .i64 t.fr, .int .i64 t.til, .int .i64 t.val]
def tds (l : List Td) : List Value := l.flatMap tdC
/-- The reference's step: an hour, the next one, the value. -/
def tdStep (out : List Td) (h nx v : Int) : List Td :=
  match out.getLast? with
  | some t => if t.val = v then out.set (out.length - 1) { t with til := nx } else out ++ [⟨h, nx, v⟩]
  | none => out ++ [⟨h, nx, v⟩]
def tdRun (hs : List Int) (v : Int → Int) (k : Nat) : List Td := (List.range k).foldl (fun o i => tdStep o (hs.getD i 0) (hs.getD (i + 1) 10000001) (v (hs.getD i 0))) []
theorem tdRun_succ (hs : List Int) (v : Int → Int) (k : Nat) : tdRun hs v (k + 1) = tdStep (tdRun hs v k) (hs.getD k 0) (hs.getD (k + 1) 10000001) (v (hs.getD k 0)) := by
  simp [tdRun, List.range_succ]
/-- Package rule's step. -/
def rtStep (out : List Td) (h v : Int) : List Td :=
  match out.getLast? with
  | some t => if t.val = v then out else out.set (out.length - 1) { t with til := h } ++ [⟨h, 0, v⟩]
  | none => out ++ [⟨h, 0, v⟩]
def rtRun (hs : List Int) (v : Int → Int) (k : Nat) : List Td := (List.range k).foldl (fun o i => rtStep o (hs.getD i 0) (v (hs.getD i 0))) []
theorem rtRun_succ (hs : List Int) (v : Int → Int) (k : Nat) : rtRun hs v (k + 1) = rtStep (rtRun hs v k) (hs.getD k 0) (v (hs.getD k 0)) := by
  simp [rtRun, List.range_succ]
theorem set_last {α : Type} (I : List α) (t u : α) : (I ++ [t]).set ((I ++ [t]).length - 1) u = I ++ [u] := by
  rw [List.set_append, if_neg (by simp)]
  simp
theorem rt_td (hs : List Int) (v : Int → Int) (k : Nat) (hk : k ≤ hs.length) : (rtRun hs v k = [] ∧ tdRun hs v k = [] ∧ k = 0) ∨ ∃ I t, rtRun hs v k = I ++ [t] ∧ tdRun hs v k = I ++ [{ t with til := hs.getD k 10000001 }] := by
  induction k with
  | zero => exact .inl ⟨rfl, rfl, rfl⟩
  | succ k ih =>
    refine .inr ?_
    rw [rtRun_succ, tdRun_succ]
    rcases ih (by omega) with ⟨h1, h2, rfl⟩ | ⟨I, t, h1, h2⟩
    · rw [h1, h2]
      exact ⟨[], ⟨hs.getD 0 0, 0, v (hs.getD 0 0)⟩, rfl, rfl⟩
    · rw [h1, h2]
      unfold rtStep tdStep
      rw [List.getLast?_concat, List.getLast?_concat]
      dsimp only
      by_cases hv : t.val = v (hs.getD k 0)
      · rw [if_pos hv, if_pos hv, set_last]
        exact ⟨I, t, rfl, rfl⟩
      · rw [if_neg hv, if_neg hv, set_last]
        refine ⟨I ++ [{ t with til := hs.getD k 0 }], ⟨hs.getD k 0, 0, v (hs.getD k 0)⟩, rfl, ?_⟩
        simp [List.getD_eq_getElem?_getD, List.getElem?_eq_getElem (show k < hs.length by omega)]
end

section
open Go.RowKit Go.Maps Go.Sort Go.Shelf

theorem sortsM (m : Nat) : AnyZI.SortsIn Tryz.prog Tryz.sortedM_ren Fence.wide m :=
  ⟨fun blk off cap ss W hH hblk hsz => callsIn_wide.2 (AnyM.slices_Sort_int Tryz.sortM blk off cap ss W hH hblk hsz),
   fun p cap W => callsIn_wide.2 (AnyM.slices_Sort_int_none Tryz.sortM p cap W)⟩
theorem keysM_calls (mb : Option Nat) (W : World) : Calls Tryz.prog 107 #[.map mb] W fun e w' => e = .returned (.func (.func 133) #[] #[.pointer (some ⟨W.heap.size, 0, none⟩)]) ∧ w' = W.alloc (.cells #[.map mb] 152) :=
  (callsIn_wide (n := 5)).1 (AnyZI.keys_in Tryz.keysM Fence.wide 5 trivial rfl mb W)
set_option maxHeartbeats 1000000 in
theorem sortedM_calls {H : Type} (b nn : Nat) (D0 : DataW H) (R : Value → Option (DataW H × List MemPlace)) (w : World) (hown : w.ownsMap Tryz.prog 3 R b nn D0) (hmax : Maps.size D0 ≤ maxLen) (hbytes : Maps.size D0 * 8 ≤ 140737488355328) :
    Calls Tryz.prog 106 #[.func (.func 133) #[] #[.pointer (some ⟨w.heap.size, 0, none⟩)]] (w.alloc (.cells #[.map (some b)] 152)) fun e w' => ∃ (v : Value) (ss : List Int), e = .returned v ∧ ss.Perm (intKeys D0) ∧
      w'.ownsRow (w.alloc (.cells #[.map (some b)] 152)).heap.size 3 1 v ss.length ((ss.mergeSort (fun x y => decide (x ≤ y))).map encZ) ∧ (v = .slice none 0 0 ↔ ss = []) ∧ Below (w.alloc (.cells #[.map (some b)] 152)).heap.size (w.alloc (.cells #[.map (some b)] 152)) w' := by
  refine (callsIn_wide (n := 5)).1 ?_
  have hbl := hown.lt
  have hseq : SeqGives Fence.wide 2 Tryz.prog 133 #[.pointer (some ⟨w.heap.size, 0, none⟩)] encZ (fun ss => ss.Perm (intKeys D0)) (Maps.size D0) (w.alloc (.cells #[.map (some b)] 152)) :=
    AnyZI.keys_gives (ρ := Tryz.keysM_ren) { Tryz.keysM with } Fence.wide _ trivial rfl (by omega) w.heap.size b nn D0 _ (by simp) (by simp) (by
      obtain ⟨es, clock, hb, Ft, hs, hD⟩ := hown
      exact ⟨es, clock, (Below.heap_alloc _ _ b hbl).trans hb, Ft, hs, hD⟩)
  exact AnyZI.sorted_in Tryz.sortedM Fence.wide 5 trivial trivial trivial trivial rfl (by omega) (sortsM _) (enters_of Tryz.func132 (by kernel_rfl) rfl) 133 #[.pointer (some ⟨w.heap.size, 0, none⟩)] trivial (enters_of Tryz.func133 (by kernel_rfl) rfl) _ _ hmax hbytes _ hseq

theorem exNodup (hs : List Int) : ∃ L : List Int, L.Nodup ∧ ∀ x, x ∈ L ↔ x ∈ hs := by
  induction hs with
  | nil => exact ⟨[], List.nodup_nil, fun x => Iff.rfl⟩
  | cons h t ih =>
    obtain ⟨L, h1, h2⟩ := ih
    by_cases hm : h ∈ L
    · exact ⟨L, h1, fun x => by
        rw [h2 x, List.mem_cons]
        constructor
        · exact .inr
        · rintro (rfl | e)
          · exact (h2 x).1 hm
          · exact e⟩
    · exact ⟨h :: L, List.nodup_cons.2 ⟨hm, h1⟩, fun x => by rw [List.mem_cons, List.mem_cons, h2 x]⟩
/-- The hours of a map, in their order. -/
theorem mom_sorted {P : Program} {k : TypeId} {H : Type} {R : Value → Option (DataW H × List MemPlace)} {w : World} {b n : Nat} {D0 : DataW H} (hown : w.ownsMap P k R b n D0) (K : Keyed P k) (hk : P.underlying k = some (.int .i64)) {hs hs2 ss : List Int}
    (hh : ∀ x, Maps.has D0 (.int .i64 x) = true ↔ x ∈ hs) (h2 : ∀ x, x ∈ hs ↔ x ∈ hs2 ∧ x ≤ 10000000) (hp : ss.Perm (intKeys D0)) : Mom hs2 (ss.mergeSort (fun x y => decide (x ≤ y))) := by
  obtain ⟨L0, hL1, hL2⟩ := exNodup hs
  have hc : CollectedI D0 (fun _ => false) L0 := ⟨hL1, fun x => by rw [hL2 x, hh x]; simp⟩
  have hpe := hc.perm hown K hk (fun _ => rfl)
  have hps := hp.trans hpe.symm
  have hsort : (ss.mergeSort (fun x y => decide (x ≤ y))).Pairwise (fun a b => a ≤ b) := by
    have := List.pairwise_mergeSort (le := fun x y : Int => decide (x ≤ y)) (fun a b c h1 h2 => by simp only [decide_eq_true_eq] at *; omega) (fun a b => by simp only [Bool.or_eq_true, decide_eq_true_eq]; omega) ss
    simpa using this
  have hnd : (ss.mergeSort (fun x y => decide (x ≤ y))).Nodup := ((List.mergeSort_perm ss _).trans hps).nodup_iff.2 hL1
  refine ⟨?_, fun x => ?_⟩
  · rw [List.pairwise_iff_getElem] at hsort ⊢
    rw [List.Nodup, List.pairwise_iff_getElem] at hnd
    intro i j hi hj hij
    have a := hsort i j hi hj hij
    have c := hnd i j hi hj hij
    omega
  · rw [((List.mergeSort_perm ss _).trans hps).mem_iff, hL2 x, h2 x]

theorem grow_none (w : World) : grow w #[] = w := by simp [grow]
theorem compact_len (zs : List Int) : (Lib.compact zs).length ≤ zs.length := by
  unfold Lib.compact Lib.compactUpTo
  rw [List.length_map]
  exact Nat.le_trans (List.length_filter_le _ _) (by simp)
set_option maxHeartbeats 1000000 in
theorem compactM_calls (base g cap : Nat) (zs : List Int) (w : World) (hown : w.ownsRow base 3 1 (.slice (some ⟨g, 0, none⟩) zs.length cap) zs.length (ints zs)) (hn : zs.length ≤ 100000) :
    Calls Tryz.prog 74 #[.slice (some ⟨g, 0, none⟩) zs.length cap] w fun e w' => e = .returned (.slice (some ⟨g, 0, none⟩) (Lib.compact zs).length cap) ∧ Rd w' (some ⟨g, 0, none⟩) (ints (Lib.compact zs)) ∧ w.grownBy w' (some g) := by
  rcases hown.2 with ⟨h, _⟩ | ⟨g', cap', cur, hv, hb, hh, h1, h2, h3, h4⟩
  · cases h
  · injection hv with e1 e2 e3
    injection e1 with e1
    injection e1 with e1
    subst e1 e3
    have hH : Holds encZ w g 0 zs.toArray := holds_of_block_i hh (by rw [Nat.mul_one] at h4; exact h4)
    have hc := Any.slices_Compact_int Tryz.compactM g 0 cap zs w hH (by omega) h1
    change Calls Tryz.prog 74 _ _ _ at hc
    refine hc.mono ?_
    rintro e w' ⟨rfl, q, rfl⟩
    have hcl := compact_len zs
    have hts : (Lib.compact zs ++ List.replicate (zs.length - (Lib.compact zs).length) (0 : Int)).length = zs.length := by simp; omega
    have hrow := ownsRow_sorted_i (os := #[]) (n := q) hts hb hh h1 h2 h3
    have hg := grownBy_sorted_i (w := w) (g := g) (n := q) (os := #[]) (Lib.compact zs ++ List.replicate (zs.length - (Lib.compact zs).length) (0 : Int)).toArray
    rw [grow_none] at hrow hg
    obtain ⟨A9, c9, hv9, hrd9, -⟩ := own_slice hrow
    injection hv9 with q1 q2 q3
    subst q1
    refine ⟨rfl, ?_, hg⟩
    have h5 := hrd9.take (Lib.compact zs).length
    rw [List.map_append, List.take_left' (by simp)] at h5
    exact h5

theorem compact_new {hs L : List Int} (hM : Mom hs L) (h0 : ∀ x ∈ L, 0 ≤ x) : Mom (hs ++ [0]) (Lib.compact (0 :: L)) := by
  by_cases hz : (0 : Int) ∈ L
  · obtain ⟨T, rfl⟩ : ∃ T, L = 0 :: T := by
      cases L with
      | nil => cases hz
      | cons a T =>
        refine ⟨T, ?_⟩
        rcases List.mem_cons.1 hz with e | e
        · rw [← e]
        · have h1 := (List.pairwise_cons.1 hM.1).1 0 e
          have h2 := h0 a (by simp)
          omega
    have hs2 := hM.1
    rw [List.pairwise_iff_getElem] at hs2
    have hd : ∀ j (hj : j < (0 :: T).length), ((0 : Int) :: 0 :: T).toArray[j + 1]! = (0 :: T)[j] := fun j hj => by
      rw [getElem!_pos _ _ (by simp at hj ⊢; omega)]; simp
    have key : ∀ j, j + 1 ≤ (0 :: T).length → Lib.compactUpTo ((0 : Int) :: 0 :: T).toArray (j + 2) = (0 :: T).take (j + 1) := by
      intro j
      induction j with
      | zero =>
        intro _
        rw [Lib.compactUpTo_succ, Lib.compactUpTo_succ]
        rw [Lib.keeps_lt_one _ 0 (by omega), Lib.keeps_neg (m := 1) (by omega) (by rw [hd 0 (by simp)]; rfl)]
        rfl
      | succ j ih =>
        intro hj
        rw [Lib.compactUpTo_succ, ih (by omega)]
        have hj1 : j + 1 < (0 :: T).length := by omega
        have hne : ((0 : Int) :: 0 :: T).toArray[j + 2]! ≠ ((0 : Int) :: 0 :: T).toArray[j + 2 - 1]! := by
          rw [hd (j + 1) hj1, show j + 2 - 1 = j + 1 from rfl, hd j (by omega)]
          have := hs2 j (j + 1) (by omega) hj1 (by omega)
          omega
        rw [Lib.keeps_pos hne, if_pos rfl, hd (j + 1) hj1, ← List.take_succ_eq_append_getElem hj1]
    have e : Lib.compact ((0 : Int) :: 0 :: T) = 0 :: T := by
      unfold Lib.compact
      have h1 := key T.length (by simp)
      rw [show (0 :: 0 :: T : List Int).length = T.length + 2 from rfl, h1, List.take_of_length_le (by simp)]
    rw [e]
    exact mom_has hM hz
  · have hasc : ((0 : Int) :: L).Pairwise (· < ·) := List.pairwise_cons.2 ⟨fun x hx => by
      have h1 := h0 x hx
      rcases (show x = 0 ∨ 0 < x by omega) with e | e
      · subst e; exact absurd hx hz
      · exact e, hM.1⟩
    have hs2 := hasc
    rw [List.pairwise_iff_getElem] at hs2
    have e : Lib.compact ((0 : Int) :: L) = 0 :: L := Lib.compact_all _ fun j hj => by
      by_cases h : j = 0
      · exact Lib.keeps_lt_one _ j (by omega)
      · refine Lib.keeps_pos ?_
        have := hs2 (j - 1) j (by omega) hj (by omega)
        rw [getElem!_pos _ _ (by simpa using hj), getElem!_pos _ _ (by simp at hj ⊢; omega)]
        simp only [List.getElem_toArray]
        omega
    rw [e]
    exact mom_ins (k := 0) hM (Nat.zero_le _) (fun j hj _ => by
      have h1 := h0 _ (List.getElem_mem hj)
      rcases (show L[j] = 0 ∨ 0 < L[j] by omega) with e2 | e2
      · exact absurd (e2 ▸ List.getElem_mem hj) hz
      · exact e2) (fun h => absurd h (by omega)) (by omega)
end

section
section
variable {P : Program} {l : List Oper} {Q : Exit → Act → World → Prop} {md : Region.Mode} {S : World → Prop} {s : Nat}

/-- Whatever order is picked from here on, and S holds behind every operation, as long as number s has not come up. -/
def wpAnyE (P : Program) (md : Region.Mode) (l : List Oper) (Q : Exit → Act → World → Prop) (S : World → Prop) (s : Nat) : Nat → Array Bool → Act → World → Prop
  | 0, listed, a, w => Region.ready md l.toArray listed = [] ∧ Q .normal a w
  | f + 1, listed, a, w =>
    (Region.ready md l.toArray listed = [] → Q .normal a w) ∧
    ∀ i ∈ Region.ready md l.toArray listed, wpOp P l.toArray Q i (fun a' w' => ((listed.setIfInBounds i true).getD s true = false → S w') ∧ wpAnyE P md l Q S s f (listed.setIfInBounds i true) a' w') a w

theorem wpAny_of_E : ∀ (f : Nat) (listed : Array Bool) (a : Act) (w : World), wpAnyE P md l Q S s f listed a w → wpAny P md l.toArray Q f listed a w
  | 0, _, _, _, h => h
  | f + 1, _, _, _, h => ⟨h.1, fun i hi => wpOp_mono (fun _ _ h' => wpAny_of_E f _ _ _ h'.2) (h.2 i hi)⟩

theorem wpAnyE_first {i : Nat} {oi : Oper} {v : Value} (hi : l.toArray[i]? = some oi) (hsel : ∀ (j : Nat) (o : Oper) cs b, l.toArray[j]? = some o → o.op ≠ .select cs b)
    (hs : Region.sinkB md l.toArray s = true) (hc : Region.chainB md l.toArray s = true) (hn : s < l.toArray.size) (his : i < s)
    (hQ : ∀ c a w, Q (.panic c) (a.put oi.dst v) w → Q (.panic c) a w) :
    ∀ (f : Nat) (listed : Array Bool) (a : Act) (w : World), HeadInv md l.toArray s listed →
      (∀ j oj, l.toArray[j]? = some oj → j ≠ i → listed.getD j true = false → (∀ e ∈ oj.after, Region.binds md e = true → e.on ≠ i) → oi.apart l.toArray oj = true) →
      i ∈ Region.ready md l.toArray listed → YieldsIf P l.toArray S oi v a → S w →
      wpAnyE P md l Q S s f (listed.setIfInBounds i true) (a.put oi.dst v) w → wpAnyE P md l Q S s (f + 1) listed a w := by
  intro f
  induction f with
  | zero =>
    intro listed a w _ _ hr hy hS H
    refine ⟨fun h => (by rw [h] at hr; cases hr), fun j hj => ?_⟩
    by_cases hji : j = i
    · subst hji; exact hy.wpOp hi hS ⟨fun _ => hS, H⟩
    · have := ready_mono hj hji
      rw [H.1] at this
      cases this
  | succ f ih =>
    intro listed a w inv hfree hr hy hS H
    refine ⟨fun h => (by rw [h] at hr; cases hr), fun j hj => ?_⟩
    by_cases hji : j = i
    · subst hji; exact hy.wpOp hi hS ⟨fun _ => hS, H⟩
    · have h1 := H.2 j (ready_mono hj hji)
      have hri := ready_mono hr (Ne.symm hji)
      have hun := (mem_ready.1 hr).1
      have hjs : j < s := by
        rcases Nat.lt_or_ge j s with h | h
        · exact h
        · exact absurd hj (tail_waits hs hc hn inv _ i rfl his hun j h)
      obtain ⟨hjun, oj, hoj, hall⟩ := mem_ready.1 hj
      have hnot : ∀ e ∈ oj.after, Region.binds md e = true → e.on ≠ i := fun e he hb heq => by
        have h2 := hall e he hb
        rw [heq, getD_both hun] at h2
        cases h2
      have h2 := wpOp_putIf hoj (hfree j oj hoj hji hjun hnot) (fun cs b => hsel i oi cs b hi) (fun cs b => hsel j oj cs b hoj) hQ hy h1
      have hls : ((listed.setIfInBounds i true).setIfInBounds j true).getD s true = false := by
        rw [getD_set_ne true (by omega), getD_set_ne true (by omega)]
        exact inv.tail s (Nat.le_refl _) hn
      refine wpOp_mono (fun a' w' h3 => ?_) h2
      have hS' := h3.2.1 hls
      refine ⟨fun _ => hS', ih (listed.setIfInBounds j true) a' w' (inv.set hj hjs) ?_ hri h3.1 hS' ?_⟩
      · intro k ok hk hki hkun hno
        refine hfree k ok hk hki ?_ hno
        by_cases hjk : j = k
        · subst hjk; exact hjun
        · rw [getD_set_ne true hjk] at hkun; exact hkun
      · rw [Array.setIfInBounds_comm _ _ hji]
        exact h3.2.2

/-- The same, where the walk keeps the list of what has come up by itself. -/
def WE (P : Program) (md : Region.Mode) (l : List Oper) (Q : Exit → Act → World → Prop) (S : World → Prop) (s f : Nat) (listed : Array Bool) (a : Act) (w : World) : Prop :=
  HeadInv md l.toArray s listed → wpAnyE P md l Q S s f listed a w

def tailOkB (md : Region.Mode) (l : List Oper) (s : Nat) : Bool :=
  Region.noSelect l.toArray && decide (s < l.toArray.size) && Region.sinkB md l.toArray s && Region.chainB md l.toArray s

theorem WE_take {i : Nat} {oi : Oper} {v : Value} {f : Nat} {listed : Array Bool} {a : Act} {w : World} (hi : l[i]? = some oi) (hT : tailOkB md l s = true) (his : i < s)
    (hf : Region.free md l.toArray listed i = true) (hr : (Region.ready md l.toArray listed).contains i = true)
    (hQ : ∀ c a w, Q (.panic c) (a.put oi.dst v) w → Q (.panic c) a w) (hw : Region.wanted oi (yielded l.toArray a.tmps) = true) (hS : S w)
    (hy : ∀ w, S w → (execOp a.eval oi).run P w = .ok (.value v) w)
    (h : WE P md l Q S s f (listed.setIfInBounds i true) (a.put oi.dst v) w) : WE P md l Q S s (f + 1) listed a w := fun inv => by
  have hi' : l.toArray[i]? = some oi := by simpa using hi
  simp only [tailOkB, Bool.and_eq_true, decide_eq_true_eq] at hT
  obtain ⟨⟨⟨hsel, hn⟩, hs⟩, hc⟩ := hT
  have hr' : i ∈ Region.ready md l.toArray listed := by simpa using hr
  exact wpAnyE_first hi' (Region.noSelect_spec hsel) hs hc hn his hQ f listed a w inv (Region.free_spec hi' hf) hr' (.inl ⟨hw, hy⟩) hS (h (inv.set hr' his))

theorem WE_one {i : Nat} {o : Oper} {f : Nat} {listed : Array Bool} {a : Act} {w : World} (hi : l[i]? = some o) (his : i < s) (hr : Region.ready md l.toArray listed = [i])
    (h : ∀ K : Act → World → Prop, Shut (∀ a w, S w → (S w → WE P md l Q S s f (listed.setIfInBounds i true) a w) → K a w) → if Region.wanted o (yielded l.toArray a.tmps) = true then Oper.wp P o a w K Q else K (a.put o.dst undef) w) :
    WE P md l Q S s (f + 1) listed a w := fun inv => by
  have hi' : l.toArray[i]? = some o := by simpa using hi
  have hm : i ∈ Region.ready md l.toArray listed := by rw [hr]; simp
  refine ⟨fun h => (by rw [h] at hr; cases hr), fun j hj => ?_⟩
  rw [hr] at hj
  obtain rfl : j = i := by simpa using hj
  exact wpOp_step hi' (fun K hK => h K (fun a w hS hW => hK a w ⟨fun _ => hS, hW hS (inv.set hm his)⟩))

theorem WE_last {o : Oper} {f : Nat} {listed : Array Bool} {a : Act} {w : World} (hi : l[s]? = some o) (hr : Region.ready md l.toArray listed = [s]) (hr2 : Region.ready md l.toArray (listed.setIfInBounds s true) = []) (hb : (listed.setIfInBounds s true).getD s true = true)
    (h : ∀ K : Act → World → Prop, Shut (∀ a w, Q .normal a w → K a w) → if Region.wanted o (yielded l.toArray a.tmps) = true then Oper.wp P o a w K Q else K (a.put o.dst undef) w) :
    WE P md l Q S s (f + 1) listed a w := fun _ => by
  have hi' : l.toArray[s]? = some o := by simpa using hi
  refine ⟨fun h => (by rw [h] at hr; cases hr), fun j hj => ?_⟩
  rw [hr] at hj
  obtain rfl : j = s := by simpa using hj
  refine wpOp_step hi' (fun K hK => h K (fun a w hQ => hK a w ⟨fun e => (by rw [hb] at e; cases e), ?_⟩))
  cases f with
  | zero => exact ⟨hr2, hQ⟩
  | succ f => exact ⟨fun _ => hQ, by rw [hr2]; simp⟩

theorem wp_region_E {id : Nat} {a : Act} {w : World} (s n : Nat) (hn : l.length = n) (hm : P.follows .mixedOrders = true) (hT : tailOkB .any l s = true) (hS : S w.drew)
    (h : S w.drew → WE P .any l Q S s n (Array.replicate n false) a w.drew) : (Code.region id l.toArray true).wp P Q a w := by
  have hsz : l.toArray.size = n := by simpa using hn
  refine wp_region_any hm (wpAny_of_E (S := S) (s := s) _ _ _ _ ?_)
  rw [hsz]
  exact h hS ⟨by simp [hsz], fun j oj _ hl => (by rw [getD_replicate_false] at hl; cases hl), fun t _ ht => getD_in (by simpa [hsz] using ht) (getD_replicate_false _ _)⟩
end
end

section
open Go.RowKit Go.Maps

/-- A map of the hours hs. -/
def HrMap (w : World) (b : Nat) (hs : List Int) (n : Nat) : Prop := ∃ D : DataW Unit, w.ownsMap Tryz.prog 3 (plainElem Tryz.prog 4) b n D ∧ ∀ x, Maps.has D (.int .i64 x) = true ↔ x ∈ hs
theorem HrMap.kept {w w' : World} {b n : Nat} {hs : List Int} {row : Option Nat} (h : HrMap w b hs n) (hg : w.grownBy w' row) (hne : some b ≠ row) : HrMap w' b hs n := by
  obtain ⟨D, h1, h2⟩ := h
  exact ⟨D, h1.kept hg hne, h2⟩
theorem HrMap.lt {w : World} {b n : Nat} {hs : List Int} (h : HrMap w b hs n) : b < w.heap.size := by
  obtain ⟨D, h1, -⟩ := h
  exact h1.lt
theorem HrMap.drew {w : World} {b n : Nat} {hs : List Int} (h : HrMap w b hs n) : HrMap w.drew b hs n := by
  obtain ⟨D, h1, h2⟩ := h
  exact ⟨D, h1.drew, h2⟩
theorem spans_cells {w : World} {b off : Nat} {l : List (Int × Int)} (h : ∀ j u, (spans l)[j]? = some u → w.cell? ⟨b, off + j, none⟩ = some u) {k : Nat} (hk : k < l.length) :
    w.cell? ⟨b, off + k * 2, none⟩ = some (.int .i64 l[k].1) ∧ w.cell? ⟨b, off + k * 2 + 1, none⟩ = some (.int .i64 l[k].2) := ⟨h _ _ (spans_0 hk), h _ _ (spans_1 hk)⟩
theorem intKeyed : Keyed Tryz.prog 3 := int_keyed Tryz.underlying3
theorem step_hour {ops : Array Oper} {o : Oper} {a : Act} {w : World} {K : Act → World → Prop} {Q : Exit → Act → World → Prop} {E : Prop}
    (hg : o.guard = none) (m x v : Operand) (t : TypeId) (hop : o.op = Op.mapUpdate t m x v) (he : Tryz.prog.underlying t = some (.map 3 4))
    {b n : Nat} {hs : List Int} (hown : HrMap w b hs n) (hm : a.eval m = .map (some b)) (hn : n < maxLen) (h : Int) (hx : a.eval x = .int .i64 h) (hv : a.eval v = .bool true) (hh : I64 h)
    (hK : ∀ w', HrMap w' b (hs ++ [h]) (n + 1) → w.grownBy w' (some b) → K (a.put o.dst undef) w') : if Region.wanted o (yielded ops a.tmps) = true then Oper.wp Tryz.prog o a w K Q else E := by
  have hw : Region.wanted o (yielded ops a.tmps) = true := by simp [Region.wanted, hg]
  rw [if_pos hw]
  obtain ⟨D, h1, h2⟩ := hown
  have hwf : (Lit.int .i64 h).wf = true := by
    simp [Lit.wf, IntKind.min, IntKind.max, IntKind.signed, IntKind.bits]
    exact ⟨hh.1, hh.2⟩
  obtain ⟨w', hrun, r1, r2⟩ := h1.update intKeyed he hn (keyOf_int_mk Tryz.underlying3 hwf) (plainElem_bool Tryz.underlying4 true)
  unfold Oper.wp
  simp [execOp, hop, hm, hx, hv, hrun, Result.andThen]
  refine hK w' ⟨_, r1, fun y => ?_⟩ r2
  rw [List.mem_append, List.mem_singleton]
  by_cases e : y = h
  · subst e
    rw [has_put_same h1.isMap (by trivial)]
    simp
  · rw [has_put_other (fun e2 => e (by simpa using e2)), h2 y]
    simp [e]

def MomPost (l : List Sg) (ed : List Ed) (w : World) (e : Ending) (w' : World) : Prop :=
  ∃ (A' : Option Addr) (c' : Nat) (L : List Int), e = .returned (.slice A' L.length c') ∧ Mom (momH l ed) L ∧ Rd w' A' (ints L) ∧ L.length ≤ 3000 ∧ Below w.heap.size w w'

set_option maxHeartbeats 4000000 in
set_option maxRecDepth 100000 in
theorem moments_calls (A2 : Option Addr) (l : List Sg) (c2 : Nat) (A3 : Option Addr) (ed : List Ed) (c3 : Nat) (w : World) (hs : SgsOk w A2 l) (he : EdsOk w A3 ed) (hl100 : l.length ≤ 100) (hc10 : ∀ s ∈ l, s.cov.length ≤ 10) (he50 : ed.length ≤ 50)
    (hlb : ∀ x ∈ momH l ed, 0 ≤ x ∧ x ≤ 10000001) :
    Calls Tryz.prog 73 #[.slice A2 l.length c2, .slice A3 ed.length c3] w (MomPost l ed w) := by
  have HS := hid hs
  have HE := hid he
  have HB := hid hlb
  have HC := hid hc10
  clear hs he hlb hc10
  have hmm := @run_makeMap Tryz.prog
  go_enter Tryz.func73, Tryz.ntmps73
  go_wp2_with fail
  go_loopw [15] (fun i wr => ∃ k : Nat, k ≤ l.length ∧ i = .int .i64 k ∧ HrMap wr w.heap.size ((l.take k).flatMap sgH) (22 * k) ∧ Below w.heap.size w wr) (fun i _ => l.length - (intOf i).toNat)
  case atStart => exact ⟨0, Nat.zero_le _, rfl, ⟨_, World.ownsMap_made _ _ _ _, fun x => by simp [Maps.has]⟩, (Below.refl _ _).alloc (Nat.le_refl _) _⟩
  case round =>
    obtain ⟨k, hk, rfl, hM, hbel⟩ := hrel
    have HM := hid hM
    have HBL := hid hbel
    clear hM hbel hmm
    by_cases hlt : k < l.length
    · have hrd := (unhid HS).rd.below (unhid HBL)
      have hcv := ((unhid HS).all _ (List.getElem_mem hlt)).rd
      have hc1 := (unhid HC) _ (List.getElem_mem hlt)
      obtain ⟨b, off, rfl, hb, hc⟩ := hrd (signs_ne hlt)
      obtain ⟨m0, m1, m2, m3, m4, m5, m6, m7, m8⟩ := signs_cells hc hlt
      have HTK := hid (show (l.take (k + 1)).flatMap sgH = (l.take k).flatMap sgH ++ sgH l[k] from by rw [List.take_succ_eq_append_getElem hlt, List.flatMap_append]; simp)
      have HXB := hid (show ∀ y ∈ sgH l[k], 0 ≤ y ∧ y ≤ 10000001 from fun y hy => (unhid HB) y (List.mem_append.2 (Or.inl (List.mem_flatMap.2 ⟨_, List.getElem_mem hlt, hy⟩))))
      generalize l[k] = x at *
      have HCV := hid hcv
      clear hc hrd hcv
      go_wp2_with fail
      have hi1 : I64 x.up := by have := (unhid HXB) x.up (by simp [sgH]); constructor <;> omega
      have hi2 : I64 x.down := by have := (unhid HXB) x.down (by simp [sgH]); constructor <;> omega
      clear m0 m1 m2 m3 m4 m5 m6 m7 m8
      obtain ⟨wc, hwc⟩ : ∃ wc, wc = wr.alloc (.cells #[.int .i64 x.num, .int .i64 x.kind, .int .i64 x.val, .int .i64 x.chain, .int .i64 x.dir, .int .i64 x.rank, .int .i64 x.up, .int .i64 x.down, .slice x.cA x.cov.length x.cc] 80) := ⟨_, rfl⟩
      rw [← hwc]
      have u6 : wc.cell? ⟨wr.heap.size, 6, none⟩ = some (.int .i64 x.up) := by rw [hwc]; simp [go_sem]
      have u7 : wc.cell? ⟨wr.heap.size, 7, none⟩ = some (.int .i64 x.down) := by rw [hwc]; simp [go_sem]
      have u8 : wc.cell? ⟨wr.heap.size, 8, none⟩ = some (.slice x.cA x.cov.length x.cc) := by rw [hwc]; simp [go_sem]
      have hsz : wr.heap.size < wc.heap.size := by rw [hwc]; simp
      have HMc := hid (show HrMap wc w.heap.size ((l.take k).flatMap sgH) (22 * k) from by rw [hwc]; exact (unhid HM).kept (World.grownBy_alloc _ _ none) (by simp))
      have HBc := hid (show Below w.heap.size w wc from by rw [hwc]; exact (unhid HBL).alloc (unhid HBL).size _)
      have hmne : w.heap.size < wr.heap.size := (unhid HM).lt
      obtain ⟨C, hC⟩ : ∃ C, C = wr.heap.size := ⟨_, rfl⟩
      rw [← hC] at u6 u7 u8 hsz hmne ⊢
      clear hwc hC
      refine wp_region_noPanic ?_
      refine wp_region_E (S := fun w' => w'.cell? ⟨C, 6, none⟩ = some (.int .i64 x.up) ∧ w'.cell? ⟨C, 7, none⟩ = some (.int .i64 x.down)) 7 8 rfl (by kernel_rfl) (by kernel_rfl) ⟨u6, u7⟩ ?_
      intro hSE
      (refine WE_take (i := 0) (v := ?_) rfl (by kernel_rfl) (by decide) (by kernel_rfl) (by kernel_rfl) (fun _ _ _ h => h) (by rfl) hSE ?_ ?_; rotate_left; (focus (intro w hSw; (try dsimp only at hSw); go_simp; (try with_reducible rfl))); simp only [Act.put, List.setIfInBounds_toArray, List.set_cons_zero, List.set_cons_succ])
      (refine WE_take (i := 1) (v := ?_) rfl (by kernel_rfl) (by decide) (by kernel_rfl) (by kernel_rfl) (fun _ _ _ h => h) (by rfl) hSE ?_ ?_; rotate_left; (focus (intro w hSw; (try dsimp only at hSw); go_simp; (try with_reducible rfl))); simp only [Act.put, List.setIfInBounds_toArray, List.set_cons_zero, List.set_cons_succ])
      (refine WE_take (i := 2) (v := ?_) rfl (by kernel_rfl) (by decide) (by kernel_rfl) (by kernel_rfl) (fun _ _ _ h => h) (by rfl) hSE ?_ ?_; rotate_left; (focus (intro w hSw; (try dsimp only at hSw); go_simp; (try with_reducible rfl))); simp only [Act.put, List.setIfInBounds_toArray, List.set_cons_zero, List.set_cons_succ])
      (refine WE_take (i := 3) (v := ?_) rfl (by kernel_rfl) (by decide) (by kernel_rfl) (by kernel_rfl) (fun _ _ _ h => h) (by rfl) hSE ?_ ?_; rotate_left; (focus (intro w hSw; (try dsimp only at hSw); go_simp; (try with_reducible rfl))); simp only [Act.put, List.setIfInBounds_toArray, List.set_cons_zero, List.set_cons_succ])
      (refine WE_take (i := 4) (v := ?_) rfl (by kernel_rfl) (by decide) (by kernel_rfl) (by kernel_rfl) (fun _ _ _ h => h) (by rfl) hSE ?_ ?_; rotate_left; (focus (intro w hSw; (try dsimp only at hSw); go_simp; (try with_reducible rfl))); simp only [Act.put, List.setIfInBounds_toArray, List.set_cons_zero, List.set_cons_succ])
      (refine WE_take (i := 5) (v := ?_) rfl (by kernel_rfl) (by decide) (by kernel_rfl) (by kernel_rfl) (fun _ _ _ h => h) (by rfl) hSE ?_ ?_; rotate_left; (focus (intro w hSw; (try dsimp only at hSw); go_simp; (try with_reducible rfl))); simp only [Act.put, List.setIfInBounds_toArray, List.set_cons_zero, List.set_cons_succ])
      (refine WE_one (i := 6) rfl (by decide) (by kernel_rfl) ?_; intro K hK)
      refine step_hour (by rfl) _ _ _ 152 (by rfl) Tryz.underlying152 ((unhid HMc).drew) (by rfl) (by unfold maxLen; omega) x.up (by rfl) (by rfl) hi1 ?_
      intro w6 hM6 hg6
      have hf6 : ∀ i, w6.cell? ⟨C, i, none⟩ = wc.cell? ⟨C, i, none⟩ := fun i => hg6.cell_far ⟨C, i, none⟩ hsz (by simp; omega)
      refine hK.out _ _ ⟨(hf6 6).trans u6, (hf6 7).trans u7⟩ ?_
      clear hSE hK K
      intro hSE
      (try simp only [Act.put, List.setIfInBounds_toArray, List.set_cons_zero, List.set_cons_succ])
      have hsz6 : C < w6.heap.size := Nat.lt_of_lt_of_le hsz hg6.size
      have hmne6 : w.heap.size < w6.heap.size := by omega
      (refine WE_last rfl (by kernel_rfl) (by kernel_rfl) (by kernel_rfl) ?_; intro K hK)
      refine step_hour (by rfl) _ _ _ 152 (by rfl) Tryz.underlying152 hM6 (by rfl) (by unfold maxLen; omega) x.down (by rfl) (by rfl) hi2 ?_
      intro w7 hM7 hg7
      refine hK.out _ _ (NoPanic.normal ?_)
      clear hK K
      have v8 : w7.cell? ⟨C, 8, none⟩ = some (.slice x.cA x.cov.length x.cc) := (hg7.cell_far ⟨C, 8, none⟩ hsz6 (by simp; omega)).trans ((hf6 8).trans u8)
      have hb7 : Below w.heap.size w w7 := Below.grown (Below.grown (Below.drew (unhid HBc)) hg6 (unhid HBc).size (fun j hj => by cases hj; exact Nat.le_refl _)) hg7 (Nat.le_of_lt hmne6) (fun j hj => by cases hj; exact Nat.le_refl _)
      have HM7 := hid hM7
      have HB7 := hid hb7
      clear hM6 hg6 hM7 hg7 hf6 hSE u6 u7 u8 hb7 HMc HBc hsz hsz6 hmne hmne6 hi1 hi2
      go_wp2_with fail
      go_loopw [28] (fun i wz => ∃ q : Nat, q ≤ x.cov.length ∧ i = .int .i64 q ∧ HrMap wz w.heap.size ((l.take k).flatMap sgH ++ [x.up] ++ [x.down] ++ (x.cov.take q).flatMap fun c => [c.1, c.2]) (22 * k + 1 + 1 + 2 * q) ∧ Below w.heap.size w wz) (fun i _ => x.cov.length - (intOf i).toNat)
      case atStart => exact ⟨0, Nat.zero_le _, rfl, by simpa using unhid HM7, unhid HB7⟩
      case round =>
        clear HM7 HB7 v8 HM HBL
        obtain ⟨q, hq, rfl, hM, hbel⟩ := hrel
        have HM := hid hM
        have HBL := hid hbel
        clear hM hbel
        by_cases hqt : q < x.cov.length
        · obtain ⟨bc, oc, hcA, hbc, hcc⟩ := ((unhid HCV).below (unhid HBL)) (spans_ne hqt)
          obtain ⟨n0, n1⟩ := spans_cells hcc hqt
          have HCK := hid (show (x.cov.take (q + 1)).flatMap (fun c => [c.1, c.2]) = (x.cov.take q).flatMap (fun c => [c.1, c.2]) ++ ([x.cov[q].1] ++ [x.cov[q].2]) from by rw [List.take_succ_eq_append_getElem hqt, List.flatMap_append]; simp)
          have HYB := hid (show (0 ≤ x.cov[q].1 ∧ x.cov[q].1 ≤ 10000001) ∧ (0 ≤ x.cov[q].2 ∧ x.cov[q].2 ≤ 10000001) from by
            have hin : ∀ z, z = x.cov[q].1 ∨ z = x.cov[q].2 → z ∈ sgH x := fun z hz => by
              simp only [sgH, List.mem_append, List.mem_flatMap]
              exact .inr ⟨x.cov[q], List.getElem_mem _, by simp [hz]⟩
            exact ⟨(unhid HXB) _ (hin _ (Or.inl rfl)), (unhid HXB) _ (hin _ (Or.inr rfl))⟩)
          generalize x.cov[q] = y at *
          clear hcc
          rw [hcA]
          go_wp2_with fail
          have hi1 : I64 y.1 := by have := (unhid HYB).1; constructor <;> omega
          have hi2 : I64 y.2 := by have := (unhid HYB).2; constructor <;> omega
          obtain ⟨wc, hwc⟩ : ∃ wc, wc = wr.alloc (.cells #[.int .i64 y.1, .int .i64 y.2] 126) := ⟨_, rfl⟩
          rw [← hwc]
          have u0 : wc.cell? ⟨wr.heap.size, 0, none⟩ = some (.int .i64 y.1) := by rw [hwc]; simp [go_sem]
          have u1 : wc.cell? ⟨wr.heap.size, 1, none⟩ = some (.int .i64 y.2) := by rw [hwc]; simp [go_sem]
          have hsz : wr.heap.size < wc.heap.size := by rw [hwc]; simp
          have HMc := hid (show HrMap wc w.heap.size ((l.take k).flatMap sgH ++ [x.up] ++ [x.down] ++ (x.cov.take q).flatMap fun c => [c.1, c.2]) (22 * k + 1 + 1 + 2 * q) from by rw [hwc]; exact (unhid HM).kept (World.grownBy_alloc _ _ none) (by simp))
          have HBc := hid (show Below w.heap.size w wc from by rw [hwc]; exact (unhid HBL).alloc (unhid HBL).size _)
          have hmne : w.heap.size < wr.heap.size := (unhid HM).lt
          obtain ⟨C, hC⟩ : ∃ C, C = wr.heap.size := ⟨_, rfl⟩
          rw [← hC] at u0 u1 hsz hmne ⊢
          clear hwc hC
          refine wp_region_noPanic ?_
          refine wp_region_E (S := fun w' => w'.cell? ⟨C, 0, none⟩ = some (.int .i64 y.1) ∧ w'.cell? ⟨C, 1, none⟩ = some (.int .i64 y.2)) 7 8 rfl (by kernel_rfl) (by kernel_rfl) ⟨u0, u1⟩ ?_
          intro hSE
          (refine WE_take (i := 0) (v := ?_) rfl (by kernel_rfl) (by decide) (by kernel_rfl) (by kernel_rfl) (fun _ _ _ h => h) (by rfl) hSE ?_ ?_; rotate_left; (focus (intro w hSw; (try dsimp only at hSw); go_simp; (try with_reducible rfl))); simp only [Act.put, List.setIfInBounds_toArray, List.set_cons_zero, List.set_cons_succ])
          (refine WE_take (i := 1) (v := ?_) rfl (by kernel_rfl) (by decide) (by kernel_rfl) (by kernel_rfl) (fun _ _ _ h => h) (by rfl) hSE ?_ ?_; rotate_left; (focus (intro w hSw; (try dsimp only at hSw); go_simp; (try with_reducible rfl))); simp only [Act.put, List.setIfInBounds_toArray, List.set_cons_zero, List.set_cons_succ])
          (refine WE_take (i := 2) (v := ?_) rfl (by kernel_rfl) (by decide) (by kernel_rfl) (by kernel_rfl) (fun _ _ _ h => h) (by rfl) hSE ?_ ?_; rotate_left; (focus (intro w hSw; (try dsimp only at hSw); go_simp; (try with_reducible rfl))); simp only [Act.put, List.setIfInBounds_toArray, List.set_cons_zero, List.set_cons_succ])
          (refine WE_take (i := 3) (v := ?_) rfl (by kernel_rfl) (by decide) (by kernel_rfl) (by kernel_rfl) (fun _ _ _ h => h) (by rfl) hSE ?_ ?_; rotate_left; (focus (intro w hSw; (try dsimp only at hSw); go_simp; (try with_reducible rfl))); simp only [Act.put, List.setIfInBounds_toArray, List.set_cons_zero, List.set_cons_succ])
          (refine WE_take (i := 4) (v := ?_) rfl (by kernel_rfl) (by decide) (by kernel_rfl) (by kernel_rfl) (fun _ _ _ h => h) (by rfl) hSE ?_ ?_; rotate_left; (focus (intro w hSw; (try dsimp only at hSw); go_simp; (try with_reducible rfl))); simp only [Act.put, List.setIfInBounds_toArray, List.set_cons_zero, List.set_cons_succ])
          (refine WE_take (i := 5) (v := ?_) rfl (by kernel_rfl) (by decide) (by kernel_rfl) (by kernel_rfl) (fun _ _ _ h => h) (by rfl) hSE ?_ ?_; rotate_left; (focus (intro w hSw; (try dsimp only at hSw); go_simp; (try with_reducible rfl))); simp only [Act.put, List.setIfInBounds_toArray, List.set_cons_zero, List.set_cons_succ])
          (refine WE_one (i := 6) rfl (by decide) (by kernel_rfl) ?_; intro K hK)
          refine step_hour (by rfl) _ _ _ 152 (by rfl) Tryz.underlying152 ((unhid HMc).drew) (by rfl) (by unfold maxLen; omega) y.1 (by rfl) (by rfl) hi1 ?_
          intro w6 hM6 hg6
          have hf6 : ∀ i, w6.cell? ⟨C, i, none⟩ = wc.cell? ⟨C, i, none⟩ := fun i => hg6.cell_far ⟨C, i, none⟩ hsz (by simp; omega)
          refine hK.out _ _ ⟨(hf6 0).trans u0, (hf6 1).trans u1⟩ ?_
          clear hSE hK K
          intro hSE
          (try simp only [Act.put, List.setIfInBounds_toArray, List.set_cons_zero, List.set_cons_succ])
          have hsz6 : C < w6.heap.size := Nat.lt_of_lt_of_le hsz hg6.size
          have hmne6 : w.heap.size < w6.heap.size := by omega
          (refine WE_last rfl (by kernel_rfl) (by kernel_rfl) (by kernel_rfl) ?_; intro K hK)
          refine step_hour (by rfl) _ _ _ 152 (by rfl) Tryz.underlying152 hM6 (by rfl) (by unfold maxLen; omega) y.2 (by rfl) (by rfl) hi2 ?_
          intro w7 hM7 hg7
          refine hK.out _ _ (NoPanic.normal ?_)
          clear hK K
          have hb7 : Below w.heap.size w w7 := Below.grown (Below.grown (Below.drew (unhid HBc)) hg6 (unhid HBc).size (fun j hj => by cases hj; exact Nat.le_refl _)) hg7 (Nat.le_of_lt hmne6) (fun j hj => by cases hj; exact Nat.le_refl _)
          have HM7 := hid hM7
          have HB7 := hid hb7
          clear hM6 hg6 hM7 hg7 hf6 hSE u0 u1 hb7 HMc HBc hsz hsz6 hmne hmne6 hi1 hi2
          go_wp2_with fail
          go_roundw
          case rel => exact ⟨q + 1, by omega, by go_num, by rw [unhid HCK, ← List.append_assoc, ← List.append_assoc]; exact unhid HM7, unhid HB7⟩
          case measure => simp [intOf]; omega
        · obtain rfl : q = x.cov.length := by omega
          go_wp2_with fail
          go_roundw
          case rel => exact ⟨k + 1, by omega, by go_num, by
            obtain ⟨D, h1, h2⟩ := unhid HM
            refine ⟨D, h1.mono (by omega), fun y => ?_⟩
            rw [h2 y, unhid HTK, List.take_length]
            simp only [sgH, List.mem_append, List.mem_cons, List.not_mem_nil, or_false]
            simp [or_assoc], unhid HBL⟩
          case measure => simp [intOf]; omega
    · obtain rfl : k = l.length := by omega
      have HM0 := hid (show HrMap wr w.heap.size (l.flatMap sgH ++ (ed.take 0).flatMap edH) (22 * l.length) from by simpa using unhid HM)
      go_wp2_with fail
      go_loopw [42] (fun i wr => ∃ k : Nat, k ≤ ed.length ∧ i = .int .i64 k ∧ HrMap wr w.heap.size (l.flatMap sgH ++ (ed.take k).flatMap edH) (22 * l.length + 2 * k) ∧ Below w.heap.size w wr) (fun i _ => ed.length - (intOf i).toNat)
      case atStart => exact ⟨0, Nat.zero_le _, rfl, unhid HM0, unhid HBL⟩
      case round =>
        clear HM HM0 HBL
        obtain ⟨k, hk, rfl, hM, hbel⟩ := hrel
        have HM := hid hM
        have HBL := hid hbel
        clear hM hbel
        by_cases hlt : k < ed.length
        · have hrd := (unhid HE).rd.below (unhid HBL)
          obtain ⟨b, off, rfl, hb, hc⟩ := hrd (edicts_ne hlt)
          obtain ⟨m0, m1, m2, m3, m4, m5, m6, m7⟩ := edicts_cells hc hlt
          have HTK := hid (show (ed.take (k + 1)).flatMap edH = (ed.take k).flatMap edH ++ edH ed[k] from by rw [List.take_succ_eq_append_getElem hlt, List.flatMap_append]; simp)
          have HXB := hid (show ∀ y ∈ edH ed[k], 0 ≤ y ∧ y ≤ 10000001 from fun y hy => (unhid HB) y (List.mem_append.2 (Or.inr (List.mem_flatMap.2 ⟨_, List.getElem_mem hlt, hy⟩))))
          generalize ed[k] = x at *
          clear hc hrd
          go_wp2_with fail
          have hi1 : I64 x.st := by have := (unhid HXB) x.st (by simp [edH]); constructor <;> omega
          have hi2 : I64 x.en := by have := (unhid HXB) x.en (by simp [edH]); constructor <;> omega
          clear m0 m1 m2 m3 m4 m5 m6 m7
          obtain ⟨wc, hwc⟩ : ∃ wc, wc = wr.alloc (.cells #[.int .i64 x.num, .int .i64 x.topic, .int .i64 x.val, .int .i64 x.dir, .int .i64 x.fr, .int .i64 x.to, .int .i64 x.st, .int .i64 x.en] 93) := ⟨_, rfl⟩
          rw [← hwc]
          have u6 : wc.cell? ⟨wr.heap.size, 6, none⟩ = some (.int .i64 x.st) := by rw [hwc]; simp [go_sem]
          have u7 : wc.cell? ⟨wr.heap.size, 7, none⟩ = some (.int .i64 x.en) := by rw [hwc]; simp [go_sem]
          have hsz : wr.heap.size < wc.heap.size := by rw [hwc]; simp
          have HMc := hid (show HrMap wc w.heap.size (l.flatMap sgH ++ (ed.take k).flatMap edH) (22 * l.length + 2 * k) from by rw [hwc]; exact (unhid HM).kept (World.grownBy_alloc _ _ none) (by simp))
          have HBc := hid (show Below w.heap.size w wc from by rw [hwc]; exact (unhid HBL).alloc (unhid HBL).size _)
          have hmne : w.heap.size < wr.heap.size := (unhid HM).lt
          obtain ⟨C, hC⟩ : ∃ C, C = wr.heap.size := ⟨_, rfl⟩
          rw [← hC] at u6 u7 hsz hmne ⊢
          clear hwc hC
          refine wp_region_noPanic ?_
          refine wp_region_E (S := fun w' => w'.cell? ⟨C, 6, none⟩ = some (.int .i64 x.st) ∧ w'.cell? ⟨C, 7, none⟩ = some (.int .i64 x.en)) 7 8 rfl (by kernel_rfl) (by kernel_rfl) ⟨u6, u7⟩ ?_
          intro hSE
          (refine WE_take (i := 0) (v := ?_) rfl (by kernel_rfl) (by decide) (by kernel_rfl) (by kernel_rfl) (fun _ _ _ h => h) (by rfl) hSE ?_ ?_; rotate_left; (focus (intro w hSw; (try dsimp only at hSw); go_simp; (try with_reducible rfl))); simp only [Act.put, List.setIfInBounds_toArray, List.set_cons_zero, List.set_cons_succ])
          (refine WE_take (i := 1) (v := ?_) rfl (by kernel_rfl) (by decide) (by kernel_rfl) (by kernel_rfl) (fun _ _ _ h => h) (by rfl) hSE ?_ ?_; rotate_left; (focus (intro w hSw; (try dsimp only at hSw); go_simp; (try with_reducible rfl))); simp only [Act.put, List.setIfInBounds_toArray, List.set_cons_zero, List.set_cons_succ])
          (refine WE_take (i := 2) (v := ?_) rfl (by kernel_rfl) (by decide) (by kernel_rfl) (by kernel_rfl) (fun _ _ _ h => h) (by rfl) hSE ?_ ?_; rotate_left; (focus (intro w hSw; (try dsimp only at hSw); go_simp; (try with_reducible rfl))); simp only [Act.put, List.setIfInBounds_toArray, List.set_cons_zero, List.set_cons_succ])
          (refine WE_take (i := 3) (v := ?_) rfl (by kernel_rfl) (by decide) (by kernel_rfl) (by kernel_rfl) (fun _ _ _ h => h) (by rfl) hSE ?_ ?_; rotate_left; (focus (intro w hSw; (try dsimp only at hSw); go_simp; (try with_reducible rfl))); simp only [Act.put, List.setIfInBounds_toArray, List.set_cons_zero, List.set_cons_succ])
          (refine WE_take (i := 4) (v := ?_) rfl (by kernel_rfl) (by decide) (by kernel_rfl) (by kernel_rfl) (fun _ _ _ h => h) (by rfl) hSE ?_ ?_; rotate_left; (focus (intro w hSw; (try dsimp only at hSw); go_simp; (try with_reducible rfl))); simp only [Act.put, List.setIfInBounds_toArray, List.set_cons_zero, List.set_cons_succ])
          (refine WE_take (i := 5) (v := ?_) rfl (by kernel_rfl) (by decide) (by kernel_rfl) (by kernel_rfl) (fun _ _ _ h => h) (by rfl) hSE ?_ ?_; rotate_left; (focus (intro w hSw; (try dsimp only at hSw); go_simp; (try with_reducible rfl))); simp only [Act.put, List.setIfInBounds_toArray, List.set_cons_zero, List.set_cons_succ])
          (refine WE_one (i := 6) rfl (by decide) (by kernel_rfl) ?_; intro K hK)
          refine step_hour (by rfl) _ _ _ 152 (by rfl) Tryz.underlying152 ((unhid HMc).drew) (by rfl) (by unfold maxLen; omega) x.st (by rfl) (by rfl) hi1 ?_
          intro w6 hM6 hg6
          have hf6 : ∀ i, w6.cell? ⟨C, i, none⟩ = wc.cell? ⟨C, i, none⟩ := fun i => hg6.cell_far ⟨C, i, none⟩ hsz (by simp; omega)
          refine hK.out _ _ ⟨(hf6 6).trans u6, (hf6 7).trans u7⟩ ?_
          clear hSE hK K
          intro hSE
          (try simp only [Act.put, List.setIfInBounds_toArray, List.set_cons_zero, List.set_cons_succ])
          have hsz6 : C < w6.heap.size := Nat.lt_of_lt_of_le hsz hg6.size
          have hmne6 : w.heap.size < w6.heap.size := by omega
          (refine WE_last rfl (by kernel_rfl) (by kernel_rfl) (by kernel_rfl) ?_; intro K hK)
          refine step_hour (by rfl) _ _ _ 152 (by rfl) Tryz.underlying152 hM6 (by rfl) (by unfold maxLen; omega) x.en (by rfl) (by rfl) hi2 ?_
          intro w7 hM7 hg7
          refine hK.out _ _ (NoPanic.normal ?_)
          clear hK K
          have hb7 : Below w.heap.size w w7 := Below.grown (Below.grown (Below.drew (unhid HBc)) hg6 (unhid HBc).size (fun j hj => by cases hj; exact Nat.le_refl _)) hg7 (Nat.le_of_lt hmne6) (fun j hj => by cases hj; exact Nat.le_refl _)
          have HM7 := hid hM7
          have HB7 := hid hb7
          clear hM6 hg6 hM7 hg7 hf6 hSE u6 u7 hb7 HMc HBc hsz hsz6 hmne hmne6 hi1 hi2
          go_wp2_with fail
          go_roundw
          case rel => exact ⟨k + 1, by omega, by go_num, by rw [unhid HTK, show edH x = [x.st] ++ [x.en] from rfl, ← List.append_assoc, ← List.append_assoc]; exact unhid HM7, unhid HB7⟩
          case measure => simp [intOf]; omega
        · obtain rfl : k = ed.length := by omega
          rw [List.take_length] at HM
          obtain ⟨D, hD, hhas⟩ := unhid HM
          have HD := hid hD
          have HH := hid hhas
          clear hD hhas HM
          go_wp2_with (first | (at_delete; refine wpList_delete_own _ rfl _ _ 152 3 rfl 4 intKeyed Tryz.underlying152 _ w.heap.size _ D rfl (unhid HD) _ _ rfl (keyOf_int_mk Tryz.underlying3 (by decide)) ?_; intro w1 hown1 hturn1))
          have HO1 := hid hown1
          have hb1 : Below w.heap.size w w1 := Below.grown (unhid HBL) hturn1.grown (unhid HBL).size (fun j hj => by cases hj; exact Nat.le_refl _)
          clear hown1 hturn1
          refine (keysM_calls _ _).mono ?_
          rintro e w2 ⟨rfl, rfl⟩
          go_wp2_with fail
          have hsz := (unhid HO1).size_le
          refine (sortedM_calls w.heap.size _ _ _ w1 (unhid HO1) (by unfold maxLen; omega) (by omega)).mono ?_
          rintro e w3 ⟨v, ss, rfl, hp, hrow, hnil, hb3⟩
          obtain ⟨A9, c9, hv9, hrd9, -⟩ := own_slice hrow
          have hM := mom_sorted (hs := (momH l ed).filter fun y => y != 10000001) (hs2 := momH l ed) (unhid HO1) intKeyed Tryz.underlying3 (fun x => by
            rw [List.mem_filter]
            by_cases e : x = 10000001
            · subst e; rw [has_del_same]; simp
            · rw [has_del_other (fun e2 => e (by simpa using e2)), (unhid HH) x]
              simp [momH, e]) (fun x => by
            rw [List.mem_filter]
            constructor
            · rintro ⟨h1, h2⟩
              have h3 := (unhid HB) x h1
              simp at h2
              exact ⟨h1, by omega⟩
            · rintro ⟨h1, h2⟩
              exact ⟨h1, by simp; omega⟩) hp
          have hln : (ss.mergeSort (fun x y => decide (x ≤ y))).length = ss.length := List.length_mergeSort _
          have hl3 : ss.length ≤ 3000 := by
            rw [hp.length_eq]
            have : ∀ D : DataW Unit, (intKeys D).length = Maps.size D := fun D => by cases D <;> simp [intKeys, Maps.size]
            rw [this]
            omega
          have hb2 : Below w.heap.size w (w1.alloc (.cells #[.map (some w.heap.size)] 152)) := hb1.alloc hb1.size _
          subst hv9
          go_wp2_with fail
          go_ret
          exact ⟨A9, c9, _, by rw [hln]; rfl, hM, hrd9, by omega, hb2.trans (hb3.mono hb2.size)⟩
end

section
theorem tds_set (l : List Td) (q : Nat) (x : Int) (hq : q < l.length) : (tds l).set (q * 3 + 1) (.int .i64 x) = tds (l.set q ⟨l[q].fr, x, l[q].val⟩) := by
  induction l generalizing q with
  | nil => simp at hq
  | cons h t ih =>
    cases q with
    | zero => simp [tds, tdC]
    | succ q =>
      have e : (q + 1) * 3 + 1 = (q * 3 + 1) + 3 := by omega
      have := ih q (by simpa using hq)
      simp only [tds, List.flatMap_cons, List.set_cons_succ, List.getElem_cons_succ] at this ⊢
      rw [← this, e]
      simp [tdC]
theorem tds_ne {l : List Td} {k : Nat} (h : k < l.length) : tds l ≠ [] := flat_ne (f := tdC) (K := 3) (fun _ => rfl) (by omega) h
theorem tds_cells {w : World} {b off : Nat} {l : List Td} (h : ∀ j u, (tds l)[j]? = some u → w.cell? ⟨b, off + j, none⟩ = some u) {k : Nat} (hk : k < l.length) :
    w.cell? ⟨b, off + k * 3, none⟩ = some (.int .i64 l[k].fr) ∧ w.cell? ⟨b, off + k * 3 + 1, none⟩ = some (.int .i64 l[k].til) ∧ w.cell? ⟨b, off + k * 3 + 2, none⟩ = some (.int .i64 l[k].val) :=
  ⟨h _ _ (flat_at (f := tdC) (K := 3) (fun _ => rfl) l k 0 hk (by omega)), h _ _ (flat_at (f := tdC) (K := 3) (fun _ => rfl) l k 1 hk (by omega)), h _ _ (flat_at (f := tdC) (K := 3) (fun _ => rfl) l k 2 hk (by omega))⟩
theorem info_told : (Tryz.prog.info? 76).map (fun i => (i.zero, i.size, i.bytes)) = some (some (.agg #[.int .i64 0, .int .i64 0, .int .i64 0]), 3, 24) := by kernel_rfl

theorem last_of {out : List Td} {q : Nat} (hq : out.length = q + 1) : out.getLast? = some (out[q]'(by omega)) := by
  rw [List.getLast?_eq_getElem?, show out.length - 1 = q by omega]; exact List.getElem?_eq_getElem _
theorem rt_nil {out : List Td} {h v : Int} (h0 : out.length = 0) : rtStep out h v = out ++ [⟨h, 0, v⟩] := by
  obtain rfl := List.eq_nil_of_length_eq_zero h0
  rfl
theorem rt_same {out : List Td} {h v : Int} {q : Nat} {y : Td} (hl : out.getLast? = some y) (hv : y.val = v) : rtStep out h v = out := by
  unfold rtStep; rw [hl]; dsimp only; rw [if_pos hv]
theorem rt_diff {out : List Td} {h v : Int} {q : Nat} {y : Td} (hq : out.length = q + 1) (hl : out.getLast? = some y) (hv : ¬ y.val = v) : rtStep out h v = out.set q ⟨y.fr, h, y.val⟩ ++ [⟨h, 0, v⟩] := by
  unfold rtStep; rw [hl]; dsimp only; rw [if_neg hv, hq]; rfl
theorem td_nil {out : List Td} {h nx v : Int} (h0 : out.length = 0) : tdStep out h nx v = out ++ [⟨h, nx, v⟩] := by
  obtain rfl := List.eq_nil_of_length_eq_zero h0
  rfl
theorem td_same {out : List Td} {h nx v : Int} {q : Nat} {y : Td} (hq : out.length = q + 1) (hl : out.getLast? = some y) (hv : y.val = v) : tdStep out h nx v = out.set q ⟨y.fr, nx, y.val⟩ := by
  unfold tdStep; rw [hl]; dsimp only; rw [if_pos hv, hq]; rfl
theorem td_diff {out : List Td} {h nx v : Int} {y : Td} (hl : out.getLast? = some y) (hv : ¬ y.val = v) : tdStep out h nx v = out ++ [⟨h, nx, v⟩] := by
  unfold tdStep; rw [hl]; dsimp only; rw [if_neg hv]
theorem tdRun_len (hs : List Int) (v : Int → Int) (k : Nat) : (tdRun hs v k).length ≤ k := by
  induction k with
  | zero => simp [tdRun]
  | succ k ih =>
    rw [tdRun_succ]
    unfold tdStep
    split
    · split
      · simp; omega
      · simp; omega
    · simp; omega
theorem rtRun_len (hs : List Int) (v : Int → Int) (k : Nat) : (rtRun hs v k).length ≤ k := by
  induction k with
  | zero => simp [rtRun]
  | succ k ih =>
    rw [rtRun_succ]
    unfold rtStep
    split
    · split
      · omega
      · simp; omega
    · simp; omega
/-- The end of package rule's list. -/
theorem rt_end {hs : List Int} {v : Int → Int} {q : Nat} {y : Td} (hn : 0 < hs.length) (hq : (rtRun hs v hs.length).length = q + 1) (hy : (rtRun hs v hs.length).getLast? = some y) :
    (rtRun hs v hs.length).set q ⟨y.fr, 10000001, y.val⟩ = tdRun hs v hs.length := by
  rcases rt_td hs v hs.length (Nat.le_refl _) with ⟨-, -, h⟩ | ⟨I, t, h1, h2⟩
  · omega
  · rw [h2]
    rw [h1] at hq hy ⊢
    rw [List.getLast?_concat] at hy
    injection hy with hy
    subst hy
    have e : q = (I ++ [t]).length - 1 := by omega
    rw [e, set_last]
    simp [List.getD_eq_getElem?_getD]

noncomputable def tdV (n : Int) (js : List Int) (l : List Sg) (dir topic m : Int) (h : Int) : Int := holdP n js (rowM n h dir l) dir topic (metreI n dir m)

theorem mom_bounds {len : Int} {js : List Int} {l : List Sg} {ed : List Ed} (h1 : sgsB len js l = true) (h2 : edsB len js ed = true) : ∀ x ∈ momH l ed, 0 ≤ x ∧ x ≤ 10000001 := by
  intro x hx
  have hz : ∀ {a b : Int}, hoursB a b = true → (0 ≤ a ∧ a ≤ 10000001) ∧ 0 ≤ b ∧ b ≤ 10000001 := fun {a b} h => by
    simp only [hoursB, decide_eq_true_eq] at h; omega
  rcases List.mem_append.1 hx with h | h
  · obtain ⟨s, hs, hm⟩ := List.mem_flatMap.1 h
    simp [sgsB] at h1
    have hk := signOk_iff.1 (h1.1.2 s hs)
    have hu := hz hk.2.2.2.2.2.1
    rcases List.mem_append.1 hm with h5 | h5
    · simp at h5
      rcases h5 with rfl | rfl
      · exact hu.1
      · exact hu.2
    · obtain ⟨c, hc, h6⟩ := List.mem_flatMap.1 h5
      have hv := hz (hk.2.2.2.2.2.2.2 c hc)
      simp at h6
      rcases h6 with rfl | rfl
      · exact hv.1
      · exact hv.2
  · obtain ⟨e, he, hm⟩ := List.mem_flatMap.1 h
    simp [edsB] at h2
    have hk := edOk_iff.1 (h2.1.2 e he)
    have hu := hz hk.2.2.2.2.2.1
    simp [edH] at hm
    rcases hm with rfl | rfl
    · exact hu.1
    · exact hu.2
theorem cov_bounds {len : Int} {js : List Int} {l : List Sg} (h1 : sgsB len js l = true) : ∀ s ∈ l, s.cov.length ≤ 10 := fun s hs => by
  simp [sgsB] at h1
  exact (signOk_iff.1 (h1.1.2 s hs)).2.2.2.2.2.2.1

theorem own_new1 (w : World) (v : Value) (t : TypeId) : (w.alloc (.cells #[v] t)).ownsRow w.heap.size t 1 (.slice (some ⟨w.heap.size, 0, none⟩) 1 1) 1 [v] :=
  ⟨rfl, Or.inr ⟨w.heap.size, 1, #[v], rfl, Nat.le_refl _, heap_alloc_new _ _, Nat.le_refl _, by unfold maxLen; omega, rfl, rfl⟩⟩
theorem wpList_app_hours {w : World} {ops : Array Oper} {rest : List Oper} {o : Oper} {a : Act} {Q : Exit → Act → World → Prop} (hgd : o.guard = none) (s x : Operand) (t : TypeId)
    (ho : o.op = .call { callee := .builtin .append, args := #[s, x], argTypes := #[t, t] }) (ht : Tryz.prog.underlying t = some (.slice 3)) {base B : Nat}
    (hown : w.ownsRow base 3 1 (.slice (some ⟨B, 0, none⟩) 1 1) 1 [.int .i64 0]) (hs : a.eval s = .slice (some ⟨B, 0, none⟩) 1 1) {A : Option Addr} {c : Nat} {L : List Int} (hx : a.eval x = .slice A L.length c) (hrd : Rd w A (ints L)) (hL : L.length ≤ 3000) (hbase : base ≤ w.heap.size)
    (h : ∀ g cap w', w'.ownsRow base 3 1 (.slice (some ⟨g, 0, none⟩) (0 :: L).length cap) (0 :: L).length (ints (0 :: L)) → Below base w w' → wpList Tryz.prog ops Q rest (a.put o.dst (.slice (some ⟨g, 0, none⟩) (0 :: L).length cap)) w') : wpList Tryz.prog ops Q (o :: rest) a w := by
  obtain ⟨i0, hi, hz0, hz1, hz2⟩ := info_parts info_int
  have hB := own_lt' hown (show (Value.slice (some ⟨B, 0, none⟩) 1 1).ownBlock = some B from rfl)
  cases L with
  | nil =>
    refine wpList_plain hgd fun K' hK' => ?_
    have hrun := run_app_zero (P := Tryz.prog) w t o.type 3 i0 ht hi (some ⟨B, 0, none⟩) 1 1 (Nat.le_refl _) A c
    unfold Oper.wp
    simp [execOp, ho, resolve, invoke, builtin, hs, hx, hrun, Result.andThen]
    exact hK' _ _ (h B 1 w hown (Below.refl _ _))
  | cons y L =>
    obtain ⟨b, off, rfl, hb, hc⟩ := hrd (ints_ne (k := 0) (by simp))
    refine wpList_append_lies _ hgd s x t ho base 3 i0 (.int .i64 0) 1 8 ht hi hz0 hz1 hz2 rfl (by decide) _ 1 [.int .i64 0] hs hown ⟨b, off, none⟩ (y :: L).length c (ints (y :: L)) hx (by simp [ints]) (fun j u hu => by rw [add_at]; exact hc j u hu) (fun u hu => by
      simp [ints] at hu
      rcases hu with rfl | ⟨z, -, rfl⟩ <;> rfl) (by simp) (by unfold maxLen; omega) (by omega) hbase w.heap.size rfl ?_
    intro g cap w' hown' hg _ _
    have e1 : 1 + (y :: L).length = (0 :: y :: L).length := by simp; omega
    rw [e1] at hown' ⊢
    exact h g cap w' hown' (Below.grown (Below.refl _ _) hg hbase (fun i hi => by cases hi; exact hB.1))
end

end Go.Proofs.YtmpngoejnmlmbaaGreat
