/-
  slices.Clone and slices.SortFunc over edicts.
-/
import Derived.Test.YtmpngoejnmlmbaaGreatMustP
import Derived.Test.YtmpngoejnmlmbaaGreatEvents
import Derived.Test.YtmpngoejnmlmbaaGreatKit2
import Derived.Test.YtmpngoejnmlmbaaGreatSortK
import Derived.Test.YtmpngoejnmlmbaaGreatSort
set_option linter.unusedSimpArgs false
set_option linter.unusedVariables false
namespace Go.Proofs.YtmpngoejnmlmbaaGreat
open Go.RowKit Go.Shelf Go.Sort

theorem info_edict : (Tryz.prog.info? 93).map (fun i => (i.zero, i.size, i.bytes)) = some (some (.agg #[.int .i64 0, .int .i64 0, .int .i64 0, .int .i64 0, .int .i64 0, .int .i64 0, .int .i64 0, .int .i64 0]), 8, 64) := by kernel_rfl
theorem edicts_len (l : List Ed) : (edicts l).length = l.length * 8 := flat_len (f := edC) (K := 8) (fun _ => rfl) l
theorem edC_one {l : List Ed} : ∀ u ∈ edicts l, u.oneCell' = true := by
  intro u hu
  obtain ⟨e, -, hu⟩ := List.mem_flatMap.1 hu
  simp [edC] at hu
  rcases hu with rfl | rfl | rfl | rfl | rfl | rfl | rfl | rfl <;> rfl

set_option maxHeartbeats 1000000 in
set_option maxRecDepth 100000 in
theorem cloneEdict_calls (A : Option Addr) (l : List Ed) (c : Nat) (w : World) (hr : Rd w A (edicts l)) (hn : l.length ≤ 1000000) :
    Calls Tryz.prog 80 #[.slice A l.length c] w fun e w' =>
      ∃ (A' : Option Addr) (c' : Nat), e = .returned (.slice A' l.length c') ∧ w'.ownsRow w.heap.size 93 8 (.slice A' l.length c') l.length (edicts l) ∧ Below w.heap.size w w' := by
  obtain ⟨i0, hi, hz0, hz1, hz2⟩ := info_parts info_edict
  have heq := fun (w : World) (A : Option Addr) (n c : Nat) => Lib.run_eql_slice_nil (P := Tryz.prog) w 26 93 A n c 0 0 Tryz.underlying26
  cases A with
  | none =>
    have hl : l = [] := by
      cases l with
      | nil => rfl
      | cons x l =>
        obtain ⟨b, off, h, -⟩ := hr (by simp [edicts, edC])
        cases h
    subst hl
    go_enter Tryz.func80, Tryz.ntmps80
    go_wp2_with fail
    go_ret
    exact ⟨none, 0, rfl, World.ownsRow_nil _ _ _ _, Below.refl _ _⟩
  | some a =>
    have hnews : ∀ (j : Nat) u, (edicts l)[j]? = some u → ∀ o, (w.alloc o).cell? (a.add j) = some u := by
      intro j u hu o
      have hne : edicts l ≠ [] := by rintro h; rw [h] at hu; simp at hu
      obtain ⟨b, off, h, hb, hc⟩ := hr hne
      cases h
      rw [add_at, World.cell?_alloc_lt _ _ _ (by exact hb)]
      exact hc j u hu
    go_enter Tryz.func80, Tryz.ntmps80
    go_wp2_with (at_builtin; refine wpList_append_own _ rfl _ _ 26 rfl w.heap.size 93 i0 _ 8 64 Tryz.underlying26 hi hz0 hz1 hz2 rfl (by decide) (.slice (some ⟨w.heap.size, 0, none⟩) 0 0) 0 [] rfl ?d1 a l.length c (edicts l) rfl (edicts_len l) (fun j u hu => hnews j u hu _) edC_one ?d2 ?d3 ?d4 ?_)
    case d1 => exact ⟨rfl, .inr ⟨w.heap.size, 0, #[], rfl, Nat.le_refl _, by rw [heap_alloc_new], Nat.le_refl _, by unfold maxLen; omega, rfl, rfl⟩⟩
    case d2 => unfold maxLen; omega
    case d3 => omega
    case d4 => simp
    intro v' w2 hown hg _
    have hb : Below w.heap.size w w2 := by
      refine Below.grown (below_alloc w (.cells #[] 93)) hg (by simp) (fun i hi => ?_)
      simp [Value.ownBlock] at hi; omega
    obtain ⟨A', c', rfl, -⟩ := own_slice hown
    have HO := hid hown
    clear hown hg
    go_wp2_with fail
    go_ret
    exact ⟨A', c', rfl, unhid HO, hb⟩

/-- An edict whose number is not beyond what can be subtracted. -/
abbrev EdN := { e : Ed // 0 ≤ e.num ∧ e.num ≤ 1000000000 }
instance : Inhabited EdN := ⟨⟨⟨0, 0, 0, 0, 0, 0, 0, 0⟩, by decide⟩⟩
def ednC (e : EdN) : List Value := edC e.1
def ednO (a b : EdN) : Int := a.1.num - b.1.num
theorem ednO_iff (a b : EdN) : ltOf ednO a b = true ↔ a.1.num < b.1.num := by
  unfold ltOf
  rw [decide_eq_true_eq]
  show a.1.num - b.1.num < 0 ↔ _
  omega
theorem ednSWO : SWO (ltOf ednO) where
  irrefl x := by
    cases h : ltOf ednO x x
    · rfl
    · have := (ednO_iff x x).1 h; omega
  trans x y z h1 h2 := by
    rw [ednO_iff] at *; omega
  ntrans x y z h1 h2 := by
    rw [← Bool.not_eq_true, ednO_iff] at *; omega
theorem grow2 (w : World) (a b : Obj) : ((w.alloc a).alloc b) = grow (w.drewN 0) #[a, b] := by
  rw [alloc_eq_grow, alloc_eq_grow, grow_grow]
  rfl
theorem ednCmp_calls (W : World) (x y : EdN) : Calls Tryz.prog 82 #[.agg (ednC x).toArray, .agg (ednC y).toArray] W fun e w' => e = .returned (.int .i64 (ednO x y)) ∧ ∃ q os, w' = grow (W.drewN q) os := by
  obtain ⟨x, hx0, hx1⟩ := x
  obtain ⟨y, hy0, hy1⟩ := y
  show Calls Tryz.prog 82 #[.agg #[.int .i64 x.num, .int .i64 x.topic, .int .i64 x.val, .int .i64 x.dir, .int .i64 x.fr, .int .i64 x.to, .int .i64 x.st, .int .i64 x.en], .agg #[.int .i64 y.num, .int .i64 y.topic, .int .i64 y.val, .int .i64 y.dir, .int .i64 y.fr, .int .i64 y.to, .int .i64 y.st, .int .i64 y.en]] W _
  go_enter Tryz.func82, Tryz.ntmps82
  go_wp2_with fail
  go_ret
  exact ⟨rfl, 0, _, grow2 _ _ _⟩

theorem sortEdict_calls (ed : List Ed) (hb : ∀ e ∈ ed, 0 ≤ e.num ∧ e.num ≤ 1000000000) (v : Value) (base : Nat) (w : World) (hown : w.ownsRow base 93 8 v ed.length (edicts ed)) (hn : ed.length ≤ 1000000) :
    Calls Tryz.prog 81 #[v, .func (.func 82) #[] #[]] w fun e w' =>
      e = .returned (.tuple #[]) ∧ ∃ L : List Ed, L.Perm ed ∧ L.Pairwise (fun a b => a.num ≤ b.num) ∧ w'.ownsRow base 93 8 v L.length (edicts L) ∧ w.grownBy w' v.ownBlock := by
  obtain ⟨l, rfl⟩ : ∃ l : List EdN, ed = l.map (·.1) := ⟨ed.pmap (fun e h => ⟨e, h⟩) hb, by rw [List.map_pmap]; simp⟩
  have hfl : ∀ l : List EdN, edicts (l.map (·.1)) = l.flatMap ednC := fun l => by simp [edicts, ednC, List.flatMap_map]
  rw [hfl, List.length_map] at hown
  have hcon := sortK Tryz.sortEdict 8 (by omega) Tryz.isAgg93 Tryz.sizeOf93 ednC (fun _ => rfl) (fun x v hv => edC_one (l := [x.1]) v (by simpa [edicts, ednC] using hv)) ednO ednSWO 82
    (fun args w => by simp [go_sem]) ednCmp_calls l v base 93 w hown (by simp at hn; omega)
  change Calls Tryz.prog 81 _ _ _ at hcon
  refine hcon.mono ?_
  rintro e w' ⟨rfl, l', hp, hs, hown', hg⟩
  refine ⟨rfl, l'.map (·.1), hp.map _, ?_, ?_, hg⟩
  · rw [List.pairwise_map]
    refine hs.imp fun {a b} h => ?_
    rw [← Bool.not_eq_true, ednO_iff] at h; omega
  · rw [hfl, List.length_map, hp.length_eq]; exact hown'

end Go.Proofs.YtmpngoejnmlmbaaGreat
