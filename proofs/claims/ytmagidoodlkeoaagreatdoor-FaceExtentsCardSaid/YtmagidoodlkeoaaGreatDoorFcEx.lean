/-
  The law FaceExtents.
-/
import Derived.Test.YtmagidoodlkeoaaGreatDoorFcLw
import Derived.Test.YtmagidoodlkeoaaGreatDoorFcAt
set_option linter.unusedSimpArgs false
set_option linter.unusedVariables false
namespace Go.Proofs.YtmagidoodlkeoaaGreatDoor
open Go.RowKit

set_option maxHeartbeats 2000000 in
set_option maxRecDepth 100000 in
theorem extents_calls (f : Fc) (A : Option Addr) (c : Nat) (w : World) (hg : Gl w) (hit : ItsOk w A f.items) :
    Calls Tryz.prog 8 #[.agg #[.int .i64 f.shape, .int .i64 f.size, .int .i64 f.height, .slice A f.items.length c]] w fun e w' => e = .returned (.bool true) ∧ Below w.heap.size w w' := by
  have HF := hid (FaceAt.new w c hit)
  have HO := hid ((On.start hg).lay (.cells #[.int .i64 f.shape, .int .i64 f.size, .int .i64 f.height, .slice A f.items.length c] 25))
  clear hg hit
  go_enter Tryz.func8, Tryz.ntmps8
  go_wp2_with fail
  generalize w.alloc (.cells #[.int .i64 f.shape, .int .i64 f.size, .int .i64 f.height, .slice A f.items.length c] 25) = W at *
  refine (long_calls f A c W (unhid HF).ok).mono ?_
  rintro e w1 ⟨rfl, hw1⟩
  have hb : Below W.heap.size W w1 := hw1 ▸ below_alloc _ _
  have HF1 := hid ((unhid HF).below hb)
  have HO1 := hid ((unhid HO).next hb)
  clear hw1 hb HF HO
  cases hl : longB f with
  | true =>
    go_wp2_with fail
    refine (unhid HO1).first.mono ?_
    rintro e w2 ⟨rfl, hb2⟩
    have HB2 := hid hb2
    clear hb2
    go_wp2_with fail
    go_ret
    exact ⟨rfl, unhid HB2⟩
  | false =>
    obtain ⟨c0, c1, c2, c3⟩ := (unhid HF1).cells
    have HE := hid (pextent_calls f A c w1 (unhid HF1).ok)
    cases hf : fcB f with
    | false =>
      rw [extR_no hf] at HE
      go_wp2_with fail
      refine (unhid HE).mono ?_
      rintro e w2 ⟨rfl, hb⟩
      have HF2 := hid ((unhid HF1).below hb)
      have HO2 := hid ((unhid HO1).next hb)
      clear hb HF1 HO1 HE c0 c1 c2 c3
      obtain ⟨c0, c1, c2, c3⟩ := (unhid HF2).cells
      have HV := hid (rvalid_calls f A c w2 (unhid HF2).ok)
      rw [hf] at HV
      go_wp2_with fail
      refine (unhid HV).mono ?_
      rintro e w3 ⟨rfl, hb⟩
      have HF3 := hid ((unhid HF2).below hb)
      have HO3 := hid ((unhid HO2).next hb)
      clear hb HF2 HO2 HV c0 c1 c2 c3
      obtain ⟨c0, c1, c2, c3⟩ := (unhid HF3).cells
      have HV := hid (valid_calls f A c w3 (unhid HF3).ok)
      rw [hf] at HV
      go_wp2_with fail
      refine (unhid HV).mono ?_
      rintro e w4 ⟨rfl, hb⟩
      have HO4 := hid ((unhid HO3).next hb)
      clear hb HF3 HO3 HV c0 c1 c2 c3
      go_wp2_with fail
      refine (unhid HO4).first.mono ?_
      rintro e w5 ⟨rfl, hb2⟩
      have HB2 := hid hb2
      clear hb2
      go_wp2_with fail
      go_ret
      exact ⟨rfl, unhid HB2⟩
    | true =>
      obtain ⟨s0, s1⟩ := size_bounds hf
      rw [extR_yes hf] at HE
      go_wp2_with fail
      refine (unhid HE).mono ?_
      rintro e w2 ⟨rfl, hb⟩
      have HF2 := hid ((unhid HF1).below hb)
      have HO2 := hid ((unhid HO1).next hb)
      clear hb HF1 HO1 HE c0 c1 c2 c3
      obtain ⟨c0, c1, c2, c3⟩ := (unhid HF2).cells
      have HV := hid (rvalid_calls f A c w2 (unhid HF2).ok)
      rw [hf] at HV
      go_wp2_with fail
      refine (unhid HV).mono ?_
      rintro e w3 ⟨rfl, hb⟩
      have HF3 := hid ((unhid HF2).below hb)
      have HO3 := hid ((unhid HO2).next hb)
      clear hb HF2 HO2 HV c0 c1 c2 c3
      obtain ⟨c0, c1, c2, c3⟩ := (unhid HF3).cells
      have HX := hid (rextent_calls f A c w3 (by omega) (by omega))
      go_wp2_with fail
      refine (unhid HX).mono ?_
      rintro e w4 ⟨rfl, hb⟩
      have HF4 := hid ((unhid HF3).below hb)
      have HO4 := hid ((unhid HO3).next hb)
      clear hb HF3 HO3 HX c0 c1 c2 c3
      obtain ⟨c0, c1, c2, c3⟩ := (unhid HF4).cells
      have HV := hid (valid_calls f A c w4 (unhid HF4).ok)
      rw [hf] at HV
      go_wp2_with fail
      refine (unhid HV).mono ?_
      rintro e w5 ⟨rfl, hb⟩
      have HO5 := hid ((unhid HO4).next hb)
      clear hb HF4 HO4 HV c0 c1 c2 c3
      go_wp2_with fail
      refine (unhid HO5).first.mono ?_
      rintro e w6 ⟨rfl, hb2⟩
      have HB2 := hid hb2
      clear hb2
      go_wp2_with fail
      go_ret
      exact ⟨rfl, unhid HB2⟩

end Go.Proofs.YtmagidoodlkeoaaGreatDoor
