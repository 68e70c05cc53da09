/-
  The library's functions that package face calls, at lists of bytes.
-/
import Derived.Test.YtfklckjfbnaoeaaGreatDoorFcLib
import Derived.Test.YtfklckjfbnaoeaaGreatDoorWaK
import Derived.WalkSmall
import Derived.Lib.SlicesS
import Derived.Lib.SplitLaws
import Derived.Lib.AppendIntMem
import Derived.Lib.AtoiErrMem
import Derived.Shelf.Strings.Cut
import Derived.Shelf.Strings.Split
import Derived.Shelf.Strings.Prefix
import Derived.Shelf.Strings.OnBuilder
import Derived.Shelf.Strconv.Itoa3
import Derived.Shelf.Strconv.AtoiAll
import Derived.Shelf.Slices.Turned
set_option linter.unusedSimpArgs false
set_option linter.unusedVariables false
namespace Go.Proofs.YtfklckjfbnaoeaaGreatDoor
open Go.RowKit

/-- What the library's variables hold. -/
structure Gl (w : World) : Prop where
  m : ∃ m : Int, w.cell? ⟨0, 0, none⟩ = some (.int .i64 m)
  syn : ∃ t p, w.cell? ⟨2, 0, none⟩ = some (.iface t p)
  rng : ∃ t p, w.cell? ⟨3, 0, none⟩ = some (.iface t p)
  tab : Lib.TabIs Tryz.prog w "internal/strconv.uint64pow10" .u64 Lib.pow10Tab
  tlt : 1 < w.heap.size
theorem Gl.below {w w' : World} (h : Gl w) (hb : Below w.heap.size w w') : Gl w' := by
  obtain ⟨⟨m, hm⟩, ⟨t1, p1, h1⟩, ⟨t2, p2, h2⟩, h3, h4⟩ := h
  exact ⟨⟨m, (hb.cell (p := ⟨0, 0, none⟩) (block_lt_of_cell hm)).trans hm⟩, ⟨t1, p1, (hb.cell (p := ⟨2, 0, none⟩) (block_lt_of_cell h1)).trans h1⟩, ⟨t2, p2, (hb.cell (p := ⟨3, 0, none⟩) (block_lt_of_cell h2)).trans h2⟩,
    var?_below hb (g := 1) (by kernel_rfl) h4 h3, Nat.lt_of_lt_of_le h4 hb.size⟩

def strC (l : List (List UInt8)) : List Value := l.map fun x => .string (SB x)
theorem SB_eq (s : ByteArray) : SB s.data.toList = s := rfl
theorem splitB_eq (s sep : List UInt8) : Lib.splitB (SB sep) 0 (Lib.countB (SB s) (SB sep)) (SB s) = (Lib.split s sep).map SB := by
  have h := Lib.splitB_data (SB sep) 0 (Lib.countB (SB s) (SB sep)) (SB s)
  have e : Lib.split s sep = (Lib.splitB (SB sep) 0 (Lib.countB (SB s) (SB sep)) (SB s)).map (·.data.toList) := by rw [h]; rfl
  rw [e, List.map_map]
  conv => lhs; rw [← List.map_id (Lib.splitB (SB sep) 0 (Lib.countB (SB s) (SB sep)) (SB s))]
  apply List.map_congr_left
  intro x _
  rfl

theorem cut_lib (s sep : List UInt8) (w : World) (hg : Gl w) (hs : s.length < 4294967281) :
    Calls Tryz.prog 44 #[.string (SB s), .string (SB sep)] w fun e w' => e = .returned (.tuple #[.string (SB (Lib.cut s sep).1), .string (SB (Lib.cut s sep).2.1), .bool (Lib.cut s sep).2.2]) ∧ ∃ n, w' = w.drewN n := by
  obtain ⟨m, hm⟩ := hg.m
  exact Any.strings_Cut Tryz.lays145 (SB s) (SB sep) m w hs hm

theorem split_lib (s sep : List UInt8) (w : World) (hg : Gl w) (hs : s.length < 4294967281) (h1 : 1 ≤ sep.length) :
    Calls Tryz.prog 221 #[.string (SB s), .string (SB sep)] w fun e w' =>
      e = .returned (.slice (some ⟨w.heap.size, 0, none⟩) (Lib.split s sep).length (Lib.split s sep).length) ∧ w' = w.alloc (.cells (strC (Lib.split s sep)).toArray 9) := by
  obtain ⟨m, hm⟩ := hg.m
  have h := Any.strings_Split Tryz.lays146 (by kernel_rfl) (SB s) (SB sep) m w hs hm h1
  have hl := Lib.splitB_all (SB sep) h1 0 _ (SB s) rfl
  rw [splitB_eq] at h hl
  rw [List.length_map] at hl
  rw [← hl, List.map_map] at h
  exact h

theorem prefix_lib (s p : List UInt8) (w : World) :
    Calls Tryz.prog 261 #[.string (SB s), .string (SB p)] w fun e w' => e = .returned (.bool (Lib.hasPrefix s p)) ∧ w = w' :=
  (Any.strings_HasPrefix Tryz.lays99 (SB s) (SB p) w).mono fun _ _ ⟨he, hw⟩ => ⟨he, hw.symm⟩

theorem itoa_lib (n : Int) (w : World) (hg : Gl w) (h0 : 0 ≤ n) (h1 : n ≤ 1000000) :
    Calls Tryz.prog 21 #[.int .i64 n] w fun e w' => e = .returned (.string (SB (Lib.itoa n))) ∧ Below w.heap.size w w' :=
  (Any.strconv_Itoa Tryz.laysM171 n (by omega) (by omega) w hg.tab).mono fun _ _ ⟨he, k, os, hw⟩ => ⟨he, hw ▸ Lib.below_grow _ w (Nat.le_refl _) k os⟩

theorem idxS_eq (ws : List (List UInt8)) (x : List UInt8) : Lib.idxOfS (ws.map SB) (SB x) = idxW ws x := by
  unfold idxW
  by_cases h : x ∈ ws
  · rw [if_pos h]
    have hk := List.idxOf_lt_length_of_mem h
    have e : ws[ws.idxOf x] = x := List.getElem_idxOf hk
    have := Lib.idxOfS_hit (ws.map SB) (ws.map SB).length (ws.idxOf x) (SB x) (by simpa using hk) (Nat.le_refl _) (by simp [List.getD_eq_getElem?_getD, hk, e]) (fun j hj => by
      have hjl : j < ws.length := by omega
      simp only [List.getD_eq_getElem?_getD, List.getElem?_map, List.getElem?_eq_getElem hjl, Option.map_some, Option.getD_some]
      intro he
      have := SB_inj he
      exact absurd this (List.not_of_lt_findIdx (p := (· == x)) hj |> fun h => by simpa using h))
    rw [List.take_length] at this
    exact this
  · rw [if_neg h]
    have := Lib.idxOfS_miss (ws.map SB) (ws.map SB).length (SB x) (fun j hj => by
      have hjl : j < ws.length := by simpa using hj
      simp only [List.getD_eq_getElem?_getD, List.getElem?_map, List.getElem?_eq_getElem hjl, Option.map_some, Option.getD_some]
      intro he
      exact h (SB_inj he ▸ List.getElem_mem hjl))
    rw [List.take_length] at this
    exact this
theorem strC_at {l : List (List UInt8)} {k : Nat} (h : k < l.length) : (strC l)[k]? = some (.string (SB l[k])) := by simp [strC, h]
theorem index_lib (ws : List (List UInt8)) (x : List UInt8) (A : Option Addr) (c : Nat) (w : World) (hr : Rd w A (strC ws)) (hn : ws.length ≤ 1000000) (h0 : ws ≠ []) :
    Calls Tryz.prog 222 #[.slice A ws.length c, .string (SB x)] w fun e w' => e = .returned (.int .i64 (idxW ws x)) ∧ w = w' := by
  obtain ⟨b, off, rfl, hb, hc⟩ := hr (by intro e; exact h0 (List.map_eq_nil_iff.1 e))
  have h := Any.slices_Index_string Tryz.lays109 b off ws.length c (ws.map SB) (SB x) w (by simp) (by omega) (fun j hj => by
    have hjl : j < ws.length := by simpa using hj
    rw [hc j _ (strC_at hjl)]
    simp [List.getD_eq_getElem?_getD, hjl])
  refine h.mono fun _ _ ⟨he, hw⟩ => ⟨?_, hw.symm⟩
  rw [he, show (ws.map SB).take ws.length = ws.map SB from List.take_of_length_le (by simp), idxS_eq]

theorem atoi_lib (s : List UInt8) (w : World) (hg : Gl w) (hs : s.length ≤ 1000000) :
    Calls Tryz.prog 85 #[.string (SB s)] w fun e w' => (∃ v, Lib.atoiAll s = .ok v ∧ e = .returned (.tuple #[.int .i64 v, .nilIface]) ∧ Below w.heap.size w w') ∨ ((∀ v, Lib.atoiAll s ≠ .ok v) ∧ ∃ v t p, e = .returned (.tuple #[.int .i64 v, .iface t p]) ∧ Below w.heap.size w w') := by
  have hs' : (SB s).size ≤ 1000000 := hs
  rcases h : Lib.atoiAll s with v | _ | _
  · refine (Any.strconv_Atoi_ok Tryz.laysC172 (SB s) (by omega) v h w).mono fun e w' ⟨he, hw⟩ => .inl ⟨v, rfl, he, ?_⟩
    rcases hw with rfl | ⟨t, rfl⟩
    · exact Below.refl _ _
    · exact Lib.bytesWorld_below _ _ _
  · obtain ⟨t, p, hv⟩ := hg.syn
    refine (Any.strconv_Atoi_syntax Tryz.laysC172 (SB s) (by omega) h _ w hv (.inr ⟨t, p, rfl⟩)).mono fun e w' ⟨N, he, _, _, hb⟩ => .inr ⟨fun v hv => (by cases hv), _, _, _, he, hb⟩
  · obtain ⟨t, p, hv⟩ := hg.rng
    refine (Any.strconv_Atoi_range Tryz.laysC172 (SB s) (by omega) h _ w hv (.inr ⟨t, p, rfl⟩)).mono fun e w' ⟨N, he, _, _, hb⟩ => .inr ⟨fun v hv => (by cases hv), _, _, _, he, hb⟩

theorem extra156 : Builder.Extra Tryz.prog Tryz.lays156_ren where
  sizeBuilder := by kernel_rfl
  liesBuilder := by kernel_rfl
  t5 := Tryz.underlying5
  a5 := Tryz.isAgg5
  z5 := Tryz.sizeOf5
  v5 := Tryz.zeroValue5
  infoByte := by kernel_rfl
  cellsByte := by kernel_rfl
  sizeByte := by kernel_rfl
  neB5 := by decide
theorem join_lib (ws : List (List UInt8)) (sep : List UInt8) (A : Option Addr) (c : Nat) (w : World) (hr : Rd w A (strC ws)) (hn : ws.length ≤ 1000000) (hc : ws.length ≤ c) (hlen : (Lib.join ws sep).length ≤ 140737488355328) :
    Calls Tryz.prog 201 #[.slice A ws.length c, .string (SB sep)] w fun e w' => e = .returned (.string (SB (Lib.join ws sep))) ∧ Below w.heap.size w w' := by
  by_cases h0 : ws = []
  · subst h0
    exact (Any.strings_Join_none Tryz.lays156 extra156 A c (SB sep) w).mono fun _ _ ⟨he, hw⟩ => ⟨he, hw ▸ Below.refl _ _⟩
  · obtain ⟨b, off, rfl, hb, hcl⟩ := hr (by intro e; exact h0 (List.map_eq_nil_iff.1 e))
    have e : (ws.map SB).map (·.data.toList) = ws := by
      rw [List.map_map]
      conv => rhs; rw [← List.map_id ws]
      apply List.map_congr_left
      intro x _
      rfl
    have h := Any.strings_Join Tryz.lays156 extra156 b off c (ws.map SB) (SB sep) w (fun j x hx => by
      rw [List.getElem?_map] at hx
      obtain ⟨y, hy, rfl⟩ := Option.map_eq_some_iff.1 hx
      obtain ⟨hj, rfl⟩ := List.getElem?_eq_some_iff.1 hy
      exact hcl j _ (strC_at hj)) hb (by simp; omega) (by simpa using hc) (by rw [e]; exact hlen)
    rw [e, List.length_map] at h
    exact h

end Go.Proofs.YtfklckjfbnaoeaaGreatDoor
