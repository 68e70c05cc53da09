/-
  Package rule's idle and every; the closure that adds a code.
-/
import Derived.Test.YtmpngoejnmlmbaaGreatHolds
import Derived.Test.YtmpngoejnmlmbaaGreatCmpK
import Derived.Deep.AppendLies
set_option linter.unusedSimpArgs false
set_option linter.unusedVariables false
namespace Go.Proofs.YtmpngoejnmlmbaaGreat
open Go.RowKit

def idleB (e : List (Int × Int)) (far : Int) : Bool := decide (far = 0 ∨ atP e (far - 1) = 0)
def insC (n : Int) (A : Option Addr) (k c : Nat) (A2 : Option Addr) (r c2 : Nat) (A4 : Option Addr) (n4 c4 : Nat) (A5 : Option Addr) (n5 c5 : Nat) : Array Value :=
  #[.int .i64 n, .slice A k c, .slice A2 r c2, .slice none 0 0, .slice A4 n4 c4, .slice A5 n5 c5]

set_option maxHeartbeats 2000000 in
theorem idle_calls (n : Int) (A : Option Addr) (k c : Nat) (A2 : Option Addr) (r c2 : Nat) (A4 : Option Addr) (e1 : List (Int × Int)) (c4 : Nat) (A5 : Option Addr) (e2 : List (Int × Int)) (c5 : Nat) (topic far : Int) (w : World)
    (h1 : Rd w A4 (evs e1)) (h2 : Rd w A5 (evs e2)) (hn1 : e1.length ≤ 100000000) (hn2 : e2.length ≤ 100000000) (ht : topic = 1 ∨ topic = 2) (hf : 0 ≤ far ∧ far ≤ 100000) :
    Calls Tryz.prog 97 #[.agg #[.int .i64 n, .slice A k c, .slice A2 r c2, .slice none 0 0, .slice A4 e1.length c4, .slice A5 e2.length c5], .int .i64 topic, .int .i64 far] w fun e w' =>
      e = .returned (.bool (idleB (if topic = 1 then e1 else e2) far)) ∧ Below w.heap.size w w' := by
  have H1 := hid h1
  have H2 := hid h2
  clear h1 h2
  by_cases h0 : far = 0
  · subst h0
    go_enter Tryz.func97, Tryz.ntmps97
    go_wp2_with fail
    all_goals
      go_ret
      exact ⟨retb (by simp [idleB]), below_alloc _ _⟩
  · have h0' : (far == 0) = false := by simpa using h0
    have HF := hid h0
    have hs : IntKind.i64.wrap (far - 1) = far - 1 := IntWalk.i64_in _ (by omega)
    clear h0
    rcases ht with rfl | rfl
    · go_enter Tryz.func97, Tryz.ntmps97
      go_wp2_with fail
      refine (at_calls A4 e1 c4 (far - 1) _ ((unhid H1).below (below_alloc _ _)) (by omega)).mono ?_
      rintro e w1 ⟨rfl, hb1⟩
      generalize hv : atP e1 (far - 1) = v
      have HV := hid hv
      clear hv
      by_cases hv0 : v = 0
      · subst hv0
        go_wp2_with fail
        go_ret
        exact ⟨retb (by simp [idleB, unhid HV]), (below_alloc w _).trans (hb1.mono (by simp))⟩
      · have hv0' : (v == 0) = false := by simpa using hv0
        have HV0 := hid hv0
        clear hv0
        go_wp2_with fail
        go_ret
        exact ⟨retb (by simp [idleB, unhid HV, unhid HV0, unhid HF]), (below_alloc w _).trans (hb1.mono (by simp))⟩
    · go_enter Tryz.func97, Tryz.ntmps97
      go_wp2_with fail
      refine (at_calls A5 e2 c5 (far - 1) _ ((unhid H2).below (below_alloc _ _)) (by omega)).mono ?_
      rintro e w1 ⟨rfl, hb1⟩
      generalize hv : atP e2 (far - 1) = v
      have HV := hid hv
      clear hv
      by_cases hv0 : v = 0
      · subst hv0
        go_wp2_with fail
        go_ret
        exact ⟨retb (by simp [idleB, unhid HV]), (below_alloc w _).trans (hb1.mono (by simp))⟩
      · have hv0' : (v == 0) = false := by simpa using hv0
        have HV0 := hid hv0
        clear hv0
        go_wp2_with fail
        go_ret
        exact ⟨retb (by simp [idleB, unhid HV, unhid HV0, unhid HF]), (below_alloc w _).trans (hb1.mono (by simp))⟩

set_option maxHeartbeats 2000000 in
theorem every_calls (n : Int) (A : Option Addr) (k c : Nat) (A2 : Option Addr) (r c2 : Nat) (A4 : Option Addr) (e1 : List (Int × Int)) (c4 : Nat) (A5 : Option Addr) (e2 : List (Int × Int)) (c5 : Nat) (far : Int) (w : World)
    (h1 : Rd w A4 (evs e1)) (h2 : Rd w A5 (evs e2)) (hn1 : e1.length ≤ 100000000) (hn2 : e2.length ≤ 100000000) (hf : 0 ≤ far ∧ far ≤ 100000) :
    Calls Tryz.prog 98 #[.func (.func 97) #[.agg #[.int .i64 n, .slice A k c, .slice A2 r c2, .slice none 0 0, .slice A4 e1.length c4, .slice A5 e2.length c5]] #[], .int .i64 far] w fun e w' =>
      e = .returned (.bool (idleB e1 far && idleB e2 far)) ∧ Below w.heap.size w w' := by
  have H2 := hid h2
  have K1 := hid (idle_calls n A k c A2 r c2 A4 e1 c4 A5 e2 c5 1 far w h1 h2 hn1 hn2 (.inl rfl) hf)
  have K2 := hid (fun w' (hb : Below w.heap.size w w') => idle_calls n A k c A2 r c2 A4 e1 c4 A5 e2 c5 2 far w' (h1.below hb) (h2.below hb) hn1 hn2 (.inr rfl) hf)
  rw [if_pos rfl] at K1
  simp only [show ¬ (2 : Int) = 1 by omega, if_false] at K2
  clear h1 h2
  go_enter Tryz.func98, Tryz.ntmps98
  go_wp2_with fail
  refine (unhid K1).mono ?_
  rintro e w1 ⟨rfl, hb1⟩
  cases hb : idleB e1 far with
  | true =>
    have HB := hid hb
    clear hb
    go_wp2_with fail
    refine ((unhid K2) _ hb1).mono ?_
    rintro e w2 ⟨rfl, hb2⟩
    go_wp2_with fail
    go_ret
    exact ⟨retb (by rw [unhid HB]; simp), hb1.trans (hb2.mono hb1.size)⟩
  | false =>
    have HB := hid hb
    clear hb
    go_wp2_with fail
    go_ret
    exact ⟨retb (by rw [unhid HB]; simp), hb1⟩

theorem info_intB : (Tryz.prog.info? 3).map (fun i => (i.zero, i.size, i.bytes)) = some (some (.int .i64 0), 1, 8) := by kernel_rfl

def codeL (code : Int) (b : Bool) : List Int := if b then [code] else []
def AddPost (code : Int) (b : Bool) (O : Nat) (w : World) (e : Ending) (w' : World) : Prop :=
  e = .returned (.tuple #[]) ∧ ∃ (A : Option Addr) (c : Nat), w'.heap[O]? = some (.cells #[.slice A (codeL code b).length c] 22 (0, 0)) ∧ Rd w' A (ints (codeL code b)) ∧ Below O w w'

set_option maxHeartbeats 2000000 in
set_option maxRecDepth 100000 in
theorem add_calls (code : Int) (b : Bool) (O : Nat) (w : World) (hO : w.heap[O]? = some (.cells #[.slice none 0 0] 22 (0, 0))) :
    Calls Tryz.prog 95 #[.int .i64 code, .bool b, .pointer (some ⟨O, 0, none⟩)] w (AddPost code b O w) := by
  obtain ⟨i0, hi, hz0, hz1, hz2⟩ := info_parts info_intB
  have hOl : O < w.heap.size := (Array.getElem?_eq_some_iff.1 hO).1
  have o0 := cell_of_one hO
  have f0 := free_of_one hO
  have HO := hid hO
  clear hO
  cases b with
  | false =>
    go_enter Tryz.func95, Tryz.ntmps95
    go_wp2_with fail
    go_end0
    exact ⟨rfl, none, 0, unhid HO, Rd.nil _ _, Below.refl _ _⟩
  | true =>
    go_enter Tryz.func95, Tryz.ntmps95
    go_wp2_with (at_builtin; refine wpList_append_lies _ rfl _ _ 22 rfl (O + 1) 3 i0 (.int .i64 0) 1 8 Tryz.underlying22 hi hz0 hz1 hz2 rfl (by decide) _ _ _ rfl (World.ownsRow_nil _ _ _ _) ⟨w.heap.size, 0, none⟩ 1 1 [.int .i64 code] rfl rfl (World.news_of_block (cs := #[.int .i64 code]) (t := 3) (fr := (0, 0)) (heap_alloc_new w _)) (by simp [Value.oneCell']) (by decide) (by unfold maxLen; omega) (by omega) (by simp; omega) (w.heap.size + 1) (by simp) ?_)
    intro g c w3 hown hg hat hlt
    obtain ⟨A8, c8, hv, hrd, -⟩ := own_slice hown
    injection hv with e1 e2 e3
    subst e1 e3
    have hg2 : (w.alloc (.cells #[.int .i64 code] 3)).grownBy w3 none := hg
    have hb3 : Below w.heap.size w w3 := (below_alloc w _).trans ((show Below (w.alloc (.cells #[.int .i64 code] 3)).heap.size _ w3 from ⟨hg2.os, hg2.tape, hg2.output, hg2.size, fun i hi => hg2.block i hi (by simp)⟩).mono (by simp))
    have hO3 := (hb3.block O hOl).trans (unhid HO)
    have o3 := cell_of_one hO3
    have f3 := free_of_one hO3
    have HO3 := hid hO3
    have HR := hid hrd
    have hgne : g ≠ O := by
      rcases hat with h | h
      · simp [Value.ownBlock] at h
      · omega
    clear hown hg hO3 hrd hat hg2
    go_wp2_with fail
    go_end0
    refine ⟨rfl, some ⟨g, 0, none⟩, c, block_set_same (unhid HO3) 0 _, ?_, Below.setCell (hb3.mono (by omega)) (by dsimp only; omega) _⟩
    intro hx
    obtain ⟨b', off, e1, hb', hc⟩ := (unhid HR) hx
    refine ⟨b', off, e1, by simpa using hb', fun j u hu => ?_⟩
    injection e1 with e1; injection e1 with e1 e2
    rw [World.cell?_setCell_far _ _ _ _ (by dsimp only; omega)]
    exact hc j u hu

end Go.Proofs.YtmpngoejnmlmbaaGreat
