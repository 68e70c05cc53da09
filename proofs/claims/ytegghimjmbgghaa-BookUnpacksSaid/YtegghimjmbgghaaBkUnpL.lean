/-
  BookUnpacks answers true.
-/
import Derived.Test.YtegghimjmbgghaaBkV
import Derived.Test.YtegghimjmbgghaaBkEq
import Derived.Test.YtegghimjmbgghaaBkO
set_option linter.unusedSimpArgs false
set_option linter.unusedVariables false
namespace Go.Proofs.Ytegghimjmbgghaa
open Go.RowKit Go.Shelf

set_option maxHeartbeats 4000000 in
set_option maxRecDepth 100000 in
theorem unpacks_calls (l : List UInt8) (A : Option Addr) (c : Nat) (w : World) (h : InOk w A l.length c (bys l) reachBytes) :
    Calls Try.prog 4 #[.slice A l.length c] w fun e w' => e = .returned (.bool true) ∧ Below w.heap.size w w' := by
  have HR := hid h.rd
  have hc := h.cap
  clear h
  go_enter Try.func4, Try.ntmps4
  by_cases h2 : 200 < l.length
  · have hi : (200 : Int) < (l.length : Int) := by omega
    go_wp2_with (go_at_call 13; refine (first_calls w).mono ?_; rintro e w' ⟨rfl, hb⟩)
    go_ret
    exact ⟨rfl, hb⟩
  · have hi : ¬ (200 : Int) < (l.length : Int) := by omega
    go_wp2_with fail
    refine (punpack_calls l A c w (unhid HR) (by omega) hc).mono ?_
    rintro e w1 ⟨rfl, hb1⟩
    have HB := hid hb1
    have HR := hid ((unhid HR).below hb1)
    clear hb1
    obtain ⟨r, hr⟩ : ∃ r, r = unpR l := ⟨_, rfl⟩
    obtain ⟨n, hn⟩ : ∃ n, n = unpE l := ⟨_, rfl⟩
    rw [← hr, ← hn]
    have HRE := hid (⟨hr.symm, hn.symm⟩ : _ ∧ _)
    clear hr hn
    simp only [rcV, rcA]
    go_upto_region 4 with (fail)
    change Code.wp _ _ _ _ (w1.alloc (.cells (rcA r) 33))
    have hb2 := below_alloc w1 (.cells (rcA r) 33)
    have HX := hid (RcAt.new w1 r)
    have HB := hid ((unhid HB).trans (hb2.mono (unhid HB).size))
    have HR := hid ((unhid HR).below hb2)
    obtain ⟨X, hX⟩ : ∃ X, X = w1.heap.size := ⟨_, rfl⟩
    rw [← hX] at HX ⊢
    clear hX hb2
    generalize w1.alloc (.cells (rcA r) 33) = w2 at *
    go_wp2_with fail
    refine (runpack_calls l A c w2 (unhid HR) (by omega) hc).mono ?_
    rintro e w3 ⟨rfl, hb3⟩
    rw [(unhid HRE).1, (unhid HRE).2]
    have HB := hid ((unhid HB).trans (hb3.mono (unhid HB).size))
    have HX := hid ((unhid HX).below hb3 (unhid HX).lt)
    clear hb3
    simp only [rcV, rcA]
    go_upto_region 5 with (fail)
    change Code.wp _ _ _ _ (w3.alloc (.cells (rcA r) 33))
    have hb4 := below_alloc w3 (.cells (rcA r) 33)
    have HY := hid (RcAt.new w3 r)
    have HB := hid ((unhid HB).trans (hb4.mono (unhid HB).size))
    have HX := hid ((unhid HX).below hb4 (unhid HX).lt)
    obtain ⟨Y, hY⟩ : ∃ Y, Y = w3.heap.size := ⟨_, rfl⟩
    rw [← hY] at HY ⊢
    clear hY hb4
    generalize w3.alloc (.cells (rcA r) 33) = w4 at *
    obtain ⟨c0, c1, c2, c3, c4, c5⟩ := (unhid HX).cells
    obtain ⟨e0, e1, e2, e3, e4, e5, e6, e7⟩ := (unhid HX).seen8
    obtain ⟨d0, d1, d2, d3, d4, d5⟩ := (unhid HY).cells
    obtain ⟨g0, g1, g2, g3, g4, g5, g6, g7⟩ := (unhid HY).seen8
    have heq := eql_same r
    have hnn : (n == n) = true := by simp
    go_wp2_with (go_at_call 13; refine (first_calls w4).mono ?_; rintro e w5 ⟨rfl, hb5⟩)
    go_ret
    exact ⟨rfl, (unhid HB).trans (hb5.mono (unhid HB).size)⟩

end Go.Proofs.Ytegghimjmbgghaa
