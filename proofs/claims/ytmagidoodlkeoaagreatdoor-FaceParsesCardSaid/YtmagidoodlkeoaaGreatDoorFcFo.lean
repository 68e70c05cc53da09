/-
  Format, and the law FaceTexts.
-/
import Derived.Test.YtmagidoodlkeoaaGreatDoorFcLw
import Derived.Test.YtmagidoodlkeoaaGreatDoorFcPf
import Derived.Test.YtmagidoodlkeoaaGreatDoorFcPy
set_option linter.unusedSimpArgs false
set_option linter.unusedVariables false
namespace Go.Proofs.YtmagidoodlkeoaaGreatDoor
open Go.RowKit

def fmtR (f : Fc) : Value := .tuple #[.string (SB (if fcB f then fmtF f else [])), .int .i64 (if fcB f then 0 else 10)]
theorem fmtR_no {f : Fc} (h : fcB f = false) : fmtR f = .tuple #[.string (SB []), .int .i64 10] := by unfold fmtR; rw [h]; rfl
theorem fmtR_yes {f : Fc} (h : fcB f = true) : fmtR f = .tuple #[.string (SB (fmtF f)), .int .i64 0] := by unfold fmtR; rw [h]; rfl

set_option maxHeartbeats 2000000 in
set_option maxRecDepth 100000 in
theorem pformat_calls (f : Fc) (A : Option Addr) (c : Nat) (w : World) (hg : Gl w) (hit : ItsOk w A f.items) :
    Calls Tryz.prog 34 #[.agg #[.int .i64 f.shape, .int .i64 f.size, .int .i64 f.height, .slice A f.items.length c]] w fun e w' => e = .returned (fmtR f) ∧ Below w.heap.size w w' := by
  have HF := hid (FaceAt.new w c hit)
  have HO := hid ((On.start hg).lay (.cells #[.int .i64 f.shape, .int .i64 f.size, .int .i64 f.height, .slice A f.items.length c] 25))
  clear hg hit
  go_enter Tryz.func34, Tryz.ntmps34
  go_wp2_with fail
  generalize w.alloc (.cells #[.int .i64 f.shape, .int .i64 f.size, .int .i64 f.height, .slice A f.items.length c] 25) = W at *
  have HV := hid (valid_calls f A c W (unhid HF).ok)
  cases hf : fcB f with
  | false =>
    rw [hf] at HV
    have HR := hid (fmtR_no hf)
    refine (unhid HV).mono ?_
    rintro e w1 ⟨rfl, hb⟩
    have HO1 := hid ((unhid HO).next hb)
    clear hb HF HO HV
    go_wp2_with fail
    go_ret2
    exact ⟨by rw [unhid HR]; rfl, (unhid HO1).bel⟩
  | true =>
    rw [hf] at HV
    have HR := hid (fmtR_yes hf)
    have HFF := hid hf
    refine (unhid HV).mono ?_
    rintro e w1 ⟨rfl, hb⟩
    have HF1 := hid ((unhid HF).below hb)
    have HO1 := hid ((unhid HO).next hb)
    clear hb HF HO HV
    obtain ⟨c0, c1, c2, c3⟩ := (unhid HF1).cells
    go_wp2_with fail
    refine (format_calls f A c w1 (unhid HO1).gl (unhid HF1).ok hf).mono ?_
    rintro e w2 ⟨rfl, hb⟩
    have HO2 := hid ((unhid HO1).next hb)
    clear hb HF1 HO1 c0 c1 c2 c3
    go_wp2_with fail
    go_ret2
    exact ⟨by rw [unhid HR]; rfl, (unhid HO2).bel⟩

end Go.Proofs.YtmagidoodlkeoaaGreatDoor
