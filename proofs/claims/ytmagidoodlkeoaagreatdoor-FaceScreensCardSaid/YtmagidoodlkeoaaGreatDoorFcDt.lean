/-
  The law FaceDots.
-/
import Derived.Test.YtmagidoodlkeoaaGreatDoorFcPp
import Derived.Test.YtmagidoodlkeoaaGreatDoorFcAt
set_option linter.unusedSimpArgs false
set_option linter.unusedVariables false
namespace Go.Proofs.YtmagidoodlkeoaaGreatDoor
open Go.RowKit

theorem atR_yes {f : Fc} {i j : Int} (h : fcB f = true) : atR f i j = .tuple #[.int .i64 (colAt f i j), .int .i64 0] := by unfold atR; rw [h]; rfl

set_option maxHeartbeats 4000000 in
set_option maxRecDepth 100000 in
theorem rat_calls (f : Fc) (A1 A2 : Option Addr) (c1 c2 : Nat) (i j : Int) (w : World) (hf : fcB f = true) (hr : Rd w A1 (ints (dotL f f.items.length))) :
    Calls Tryz.prog 28 #[.agg #[.int .i64 f.size, .int .i64 (heiF f), .slice A1 (numD f) c1, .slice A2 (numD f) c2], .int .i64 i, .int .i64 j] w fun e w' => e = .returned (.int .i64 (colAt f i j)) ∧ Below w.heap.size w w' := by
  obtain ⟨s0, s1⟩ := size_bounds hf
  obtain ⟨h0, h1⟩ := heiF_bounds hf
  obtain ⟨n0, n1⟩ := numD_bounds hf
  have HB := hid (below_alloc w (.cells #[.int .i64 f.size, .int .i64 (heiF f), .slice A1 (numD f) c1, .slice A2 (numD f) c2] 36))
  by_cases hin : 0 ≤ i ∧ i < f.size ∧ 0 ≤ j ∧ j < heiF f
  · have HFIN := hid (show colAt f i j = colI f i j from if_pos hin)
    obtain ⟨n, hn, hij, hd, -⟩ := pix_int (f := f) (i := i) (j := j) ⟨hin.1, hin.2.1⟩ ⟨hin.2.2.1, hin.2.2.2⟩
    have hL : (dotL f f.items.length)[n]? = some (colI f i j) := by
      rw [← hd]
      unfold dotL
      simp [hn]
    have hne : ints (dotL f f.items.length) ≠ [] := ints_ne (k := n) (by rw [dotL_len]; exact hn)
    obtain ⟨b, off, rfl, hb, hc⟩ := (hr.below (below_alloc w (.cells #[.int .i64 f.size, .int .i64 (heiF f), .slice A1 (numD f) c1, .slice A2 (numD f) c2] 36))) hne
    have m0 := hc n (.int .i64 (colI f i j)) (by simp [ints, hL])
    obtain ⟨g1, g2, g3, g4⟩ := hin
    have mj := mul_bd (a := j) (b := f.size) (A := 200) (B := 200) (by omega) (by omega) (by omega) (by omega)
    obtain ⟨mj1, mj2⟩ := mj
    obtain ⟨e1, e1'⟩ := w64 (n := j * f.size) (by omega) (by omega)
    have e2 : wrap64 (j * f.size + i) = (n : Int) := by rw [hij]; exact (w64 (by omega) (by omega)).1
    have e2' : IntKind.i64.wrap (j * f.size + i) = (n : Int) := by rw [hij]; exact (w64 (by omega) (by omega)).2
    have hnD : (n : Int) < numD f := by omega
    have HC := hid (And.intro hij hd)
    have b1 : ¬ i < 0 := by omega
    have b2 : ¬ j < 0 := by omega
    have b3 : ¬ f.size ≤ i := by omega
    have b4 : ¬ heiF f ≤ j := by omega
    clear hd hL hc hne hr
    generalize colI f i j = q at *
    have HFIN2 := HFIN
    go_enter Tryz.func28, Tryz.ntmps28
    go_wp2_with fail
    go_ret
    exact ⟨reti (unhid HFIN).symm, unhid HB⟩
  · have HFIN := hid (show colAt f i j = 0 from if_neg hin)
    clear hr
    rcases (show i < 0 ∨ (¬ i < 0 ∧ j < 0) ∨ (¬ i < 0 ∧ ¬ j < 0 ∧ f.size ≤ i) ∨ (¬ i < 0 ∧ ¬ j < 0 ∧ ¬ f.size ≤ i ∧ heiF f ≤ j) by omega) with b1 | ⟨b1, b2⟩ | ⟨b1, b2, b3⟩ | ⟨b1, b2, b3, b4⟩
    all_goals
      clear hin
      go_enter Tryz.func28, Tryz.ntmps28
      go_wp2_with fail
      go_ret
      exact ⟨reti (unhid HFIN).symm, unhid HB⟩

set_option maxHeartbeats 4000000 in
set_option maxRecDepth 100000 in
theorem dots_calls (f : Fc) (A : Option Addr) (c : Nat) (i j : Int) (w : World) (hg : Gl w) (hit : ItsOk w A f.items) :
    Calls Tryz.prog 4 #[.agg #[.int .i64 f.shape, .int .i64 f.size, .int .i64 f.height, .slice A f.items.length c], .int .i64 i, .int .i64 j] w fun e w' => e = .returned (.bool true) ∧ Below w.heap.size w w' := by
  have HF := hid (FaceAt.new w c hit)
  have HO := hid ((On.start hg).lay (.cells #[.int .i64 f.shape, .int .i64 f.size, .int .i64 f.height, .slice A f.items.length c] 25))
  clear hg hit
  go_enter Tryz.func4, Tryz.ntmps4
  go_wp2_with fail
  generalize w.alloc (.cells #[.int .i64 f.shape, .int .i64 f.size, .int .i64 f.height, .slice A f.items.length c] 25) = W at *
  refine (heavy_calls f A c W (unhid HF).ok).mono ?_
  rintro e w1 ⟨rfl, hb⟩
  have HF := hid ((unhid HF).below hb)
  have HO := hid ((unhid HO).next hb)
  clear hb
  cases hl : heavyF f with
  | true =>
    go_wp2_with fail
    refine (unhid HO).first.mono ?_
    rintro e w9 ⟨rfl, hb2⟩
    have HB2 := hid hb2
    clear hb2
    go_wp2_with fail
    go_ret
    exact ⟨rfl, unhid HB2⟩
  | false =>
    obtain ⟨c0, c1, c2, c3⟩ := (unhid HF).cells
    have HE := hid (at_calls f A c i j w1 (unhid HF).ok)
    cases hf : fcB f with
    | false =>
      rw [atR_no hf] at HE
      have HFF := hid hf
      go_wp2_with fail
      refine (unhid HE).mono ?_
      rintro e w2 ⟨rfl, hb⟩
      have HF := hid ((unhid HF).below hb)
      have HO := hid ((unhid HO).next hb)
      clear hb c0 c1 c2 c3
      obtain ⟨c0, c1, c2, c3⟩ := (unhid HF).cells

      go_wp2_with fail
      refine (rvalid_calls f A c w2 (unhid HF).ok).mono ?_
      rintro e w3 ⟨rfl, hb⟩
      rw [unhid HFF]
      have HF := hid ((unhid HF).below hb)
      have HO := hid ((unhid HO).next hb)
      clear hb c0 c1 c2 c3
      obtain ⟨c0, c1, c2, c3⟩ := (unhid HF).cells

      go_wp2_with fail
      refine (unhid HO).first.mono ?_
      rintro e w9 ⟨rfl, hb2⟩
      have HB2 := hid hb2
      clear hb2
      go_wp2_with fail
      go_ret
      exact ⟨rfl, unhid HB2⟩

    | true =>
      rw [atR_yes hf] at HE
      have HFF := hid hf
      go_wp2_with fail
      refine (unhid HE).mono ?_
      rintro e w2 ⟨rfl, hb⟩
      have HF := hid ((unhid HF).below hb)
      have HO := hid ((unhid HO).next hb)
      clear hb c0 c1 c2 c3
      obtain ⟨c0, c1, c2, c3⟩ := (unhid HF).cells

      go_wp2_with fail
      refine (rvalid_calls f A c w2 (unhid HF).ok).mono ?_
      rintro e w3 ⟨rfl, hb⟩
      rw [unhid HFF]
      have HF := hid ((unhid HF).below hb)
      have HO := hid ((unhid HO).next hb)
      clear hb c0 c1 c2 c3
      obtain ⟨c0, c1, c2, c3⟩ := (unhid HF).cells

      go_wp2_with fail
      refine (paint_calls f A c w3 (unhid HF).ok (unhid HFF)).mono ?_
      rintro e w4 ⟨hb, A1, A2, k1, k2, rfl, hr1, -⟩
      have HR1 := hid hr1
      clear hr1
      have HF := hid ((unhid HF).below hb)
      have HO := hid ((unhid HO).next hb)
      clear hb c0 c1 c2 c3
      obtain ⟨c0, c1, c2, c3⟩ := (unhid HF).cells

      go_wp2_with fail
      refine (rat_calls f A1 A2 k1 k2 i j w4 (unhid HFF) (unhid HR1)).mono ?_
      rintro e w5 ⟨rfl, hb⟩
      have HF := hid ((unhid HF).below hb)
      have HO := hid ((unhid HO).next hb)
      clear hb c0 c1 c2 c3
      obtain ⟨c0, c1, c2, c3⟩ := (unhid HF).cells

      generalize colAt f i j = q at *
      have hqq : (q == q) = true := by simp
      go_wp2_with fail
      refine (unhid HO).first.mono ?_
      rintro e w9 ⟨rfl, hb2⟩
      have HB2 := hid hb2
      clear hb2
      go_wp2_with fail
      go_ret
      exact ⟨rfl, unhid HB2⟩

end Go.Proofs.YtmagidoodlkeoaaGreatDoor
