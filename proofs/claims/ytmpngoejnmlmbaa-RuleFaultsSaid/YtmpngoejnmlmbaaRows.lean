/-
  No cell of these rows narrows 'for every input' (looked for: loops, veiled, ifaces, maps, wideKeys, modest, calm, conditions, laid).
  DERIVED. THE GIVEN ROWS OF THIS SEAT. 7 by the template 'for every input the law returns true; each argument reads behind the call as it read before'; 0 by the template 'total and deterministic' (their statements: YtmpngoejnmlmbaaTotals.lean).
  GIVEN WITH THE SEED: the statements are not yours to turn. If you find one false, say at which input.
  Laid BY PROGRAM, IN A SANDBOX (cutbox-rows.mjs): the forced cells as the released guide's own fill.sh prints them over the translation 09b92a4ab9f93220… (all of the seat's roots in one cut). By AI agents, Wed Nov 11 2026. No macro, syntax, notation, axiom, sorry.
-/
import Derived.Test.YtmpngoejnmlmbaaChecked
import GoSem.Claim
import GoSem.ClaimJoined
import GoSem.ClaimMapViews
import Derived.JoinedTies
import Derived.KernelRfl
namespace Go.Proofs.Ytmpngoejnmlmbaa
/- THE CELL 'sum', in the pinned program and in every row, IS THE sha256 OF THE DUMP (.gsa) THAT YtmpngoejnmlmbaaProg.lean LOADS. Nothing in Lean hashes anything: it is a label: what it is worth is what the hold of that sum in a sandbox is worth. -/
noncomputable def Try.pinned : Pinned := { name := "ytmpngoejnmlmbaa", sum := "09b92a4ab9f932205e089a16a2c40be497bdccb1e56188e3a7ba757b605588e5", checked := Try.checked }
namespace Rows
def none {H : Type} : Left H := { results := [], args := [] }

/-- 'blazonlaw07.RuleRows': WHATEVER THE INPUT: true; the input reads as it did. -/
def ruleRowsSpec : ChangeSpec := { name := "ruleRows", fn := fun _ => fun
  | [d] => { results := [.lit (.bool true)], args := [d] }
  | _ => none }
def ruleRowsRow : OpenClaim := { program := "ytmpngoejnmlmbaa", sum := "09b92a4ab9f932205e089a16a2c40be497bdccb1e56188e3a7ba757b605588e5", func := "blazon/blazonlaw07.RuleRows", spec := "ruleRows", unfollowed := true, recurses := true, apart := false }
def RuleRowsSaid : Prop := ruleRowsRow.holds Try.pinned (OpenSpec.ofChange ruleRowsSpec)

/-- ITS FALSE NEIGHBOUR: 'it returns false'. Refute it at one input. -/
def ruleRowsWrong : ChangeSpec := { name := "ruleRows", fn := fun _ => fun
  | [d] => { results := [.lit (.bool false)], args := [d] }
  | _ => none }
def RuleRowsWrongFalsely : Prop := ruleRowsRow.holds Try.pinned (OpenSpec.ofChange ruleRowsWrong)

/-- 'blazonlaw07.RuleLines': WHATEVER THE INPUT: true; the input reads as it did. -/
def ruleLinesSpec : ChangeSpec := { name := "ruleLines", fn := fun _ => fun
  | [d] => { results := [.lit (.bool true)], args := [d] }
  | _ => none }
def ruleLinesRow : OpenClaim := { program := "ytmpngoejnmlmbaa", sum := "09b92a4ab9f932205e089a16a2c40be497bdccb1e56188e3a7ba757b605588e5", func := "blazon/blazonlaw07.RuleLines", spec := "ruleLines", unfollowed := true, recurses := true, apart := false }
def RuleLinesSaid : Prop := ruleLinesRow.holds Try.pinned (OpenSpec.ofChange ruleLinesSpec)

/-- ITS FALSE NEIGHBOUR: 'it returns false'. Refute it at one input. -/
def ruleLinesWrong : ChangeSpec := { name := "ruleLines", fn := fun _ => fun
  | [d] => { results := [.lit (.bool false)], args := [d] }
  | _ => none }
def RuleLinesWrongFalsely : Prop := ruleLinesRow.holds Try.pinned (OpenSpec.ofChange ruleLinesWrong)

/-- 'blazonlaw07.RuleSilence': WHATEVER THE INPUT: true; the input reads as it did. -/
def ruleSilenceSpec : ChangeSpec := { name := "ruleSilence", fn := fun _ => fun
  | [d1, d2] => { results := [.lit (.bool true)], args := [d1, d2] }
  | _ => none }
def ruleSilenceRow : OpenClaim := { program := "ytmpngoejnmlmbaa", sum := "09b92a4ab9f932205e089a16a2c40be497bdccb1e56188e3a7ba757b605588e5", func := "blazon/blazonlaw07.RuleSilence", spec := "ruleSilence", unfollowed := true, recurses := true, apart := false }
def RuleSilenceSaid : Prop := ruleSilenceRow.holds Try.pinned (OpenSpec.ofChange ruleSilenceSpec)

/-- ITS FALSE NEIGHBOUR: 'it returns false'. Refute it at one input. -/
def ruleSilenceWrong : ChangeSpec := { name := "ruleSilence", fn := fun _ => fun
  | [d1, d2] => { results := [.lit (.bool false)], args := [d1, d2] }
  | _ => none }
def RuleSilenceWrongFalsely : Prop := ruleSilenceRow.holds Try.pinned (OpenSpec.ofChange ruleSilenceWrong)

/-- 'blazonlaw07.RuleHolds': WHATEVER THE INPUT: true; the input reads as it did. -/
def ruleHoldsSpec : ChangeSpec := { name := "ruleHolds", fn := fun _ => fun
  | [d] => { results := [.lit (.bool true)], args := [d] }
  | _ => none }
def ruleHoldsRow : OpenClaim := { program := "ytmpngoejnmlmbaa", sum := "09b92a4ab9f932205e089a16a2c40be497bdccb1e56188e3a7ba757b605588e5", func := "blazon/blazonlaw07.RuleHolds", spec := "ruleHolds", unfollowed := true, recurses := true, apart := false }
def RuleHoldsSaid : Prop := ruleHoldsRow.holds Try.pinned (OpenSpec.ofChange ruleHoldsSpec)

/-- ITS FALSE NEIGHBOUR: 'it returns false'. Refute it at one input. -/
def ruleHoldsWrong : ChangeSpec := { name := "ruleHolds", fn := fun _ => fun
  | [d] => { results := [.lit (.bool false)], args := [d] }
  | _ => none }
def RuleHoldsWrongFalsely : Prop := ruleHoldsRow.holds Try.pinned (OpenSpec.ofChange ruleHoldsWrong)

/-- 'blazonlaw07.RuleCompares': WHATEVER THE INPUT: true; the input reads as it did. -/
def ruleComparesSpec : ChangeSpec := { name := "ruleCompares", fn := fun _ => fun
  | [d] => { results := [.lit (.bool true)], args := [d] }
  | _ => none }
def ruleComparesRow : OpenClaim := { program := "ytmpngoejnmlmbaa", sum := "09b92a4ab9f932205e089a16a2c40be497bdccb1e56188e3a7ba757b605588e5", func := "blazon/blazonlaw07.RuleCompares", spec := "ruleCompares", unfollowed := true, recurses := true, apart := false }
def RuleComparesSaid : Prop := ruleComparesRow.holds Try.pinned (OpenSpec.ofChange ruleComparesSpec)

/-- ITS FALSE NEIGHBOUR: 'it returns false'. Refute it at one input. -/
def ruleComparesWrong : ChangeSpec := { name := "ruleCompares", fn := fun _ => fun
  | [d] => { results := [.lit (.bool false)], args := [d] }
  | _ => none }
def RuleComparesWrongFalsely : Prop := ruleComparesRow.holds Try.pinned (OpenSpec.ofChange ruleComparesWrong)

/-- 'blazonlaw07.RuleFaults': WHATEVER THE INPUT: true; the input reads as it did. -/
def ruleFaultsSpec : ChangeSpec := { name := "ruleFaults", fn := fun _ => fun
  | [d] => { results := [.lit (.bool true)], args := [d] }
  | _ => none }
def ruleFaultsRow : OpenClaim := { program := "ytmpngoejnmlmbaa", sum := "09b92a4ab9f932205e089a16a2c40be497bdccb1e56188e3a7ba757b605588e5", func := "blazon/blazonlaw07.RuleFaults", spec := "ruleFaults", unfollowed := true, recurses := true, apart := false }
def RuleFaultsSaid : Prop := ruleFaultsRow.holds Try.pinned (OpenSpec.ofChange ruleFaultsSpec)

/-- ITS FALSE NEIGHBOUR: 'it returns false'. Refute it at one input. -/
def ruleFaultsWrong : ChangeSpec := { name := "ruleFaults", fn := fun _ => fun
  | [d] => { results := [.lit (.bool false)], args := [d] }
  | _ => none }
def RuleFaultsWrongFalsely : Prop := ruleFaultsRow.holds Try.pinned (OpenSpec.ofChange ruleFaultsWrong)

/-- 'blazonlaw07.RuleProposes': WHATEVER THE INPUT: true; the input reads as it did. -/
def ruleProposesSpec : ChangeSpec := { name := "ruleProposes", fn := fun _ => fun
  | [d] => { results := [.lit (.bool true)], args := [d] }
  | _ => none }
def ruleProposesRow : OpenClaim := { program := "ytmpngoejnmlmbaa", sum := "09b92a4ab9f932205e089a16a2c40be497bdccb1e56188e3a7ba757b605588e5", func := "blazon/blazonlaw07.RuleProposes", spec := "ruleProposes", unfollowed := true, recurses := true, apart := false }
def RuleProposesSaid : Prop := ruleProposesRow.holds Try.pinned (OpenSpec.ofChange ruleProposesSpec)

/-- ITS FALSE NEIGHBOUR: 'it returns false'. Refute it at one input. -/
def ruleProposesWrong : ChangeSpec := { name := "ruleProposes", fn := fun _ => fun
  | [d] => { results := [.lit (.bool false)], args := [d] }
  | _ => none }
def RuleProposesWrongFalsely : Prop := ruleProposesRow.holds Try.pinned (OpenSpec.ofChange ruleProposesWrong)

/- THE SECOND FORM. 'bulk': how many values and letters a reading holds, each counted each time it is reached (what is shared counts as often as it is met; a slice's spare places count too). A statement '..UptoSaid' is the law's where the arguments, and the package variables that the reading takes, are together of bulk at most 1048576: NARROWER than '..Said'. Prove '..Said' where nothing that the law and all that it calls make is longer than what came in: it says more and counts as full. Else prove '..UptoSaid'. A law counts once. -/
mutual
def uptoBulk {H : Type} : DataW H → Nat
  | .lit (.string bytes) => bytes.length + 1
  | .lit _ => 1
  | .nil => 1
  | .ptr d => uptoBulk d + 1
  | .slice elems spare => uptoBulkAll elems + uptoBulkAll spare + 1
  | .agg parts => uptoBulkAll parts + 1
  | .iface _ d => uptoBulk d + 1
  | .map entries => uptoBulkEntries entries + 1
  | .held _ => 1
def uptoBulkAll {H : Type} : List (DataW H) → Nat
  | [] => 0
  | d :: r => uptoBulk d + uptoBulkAll r
def uptoBulkEntries {H : Type} : List (Lit × DataW H) → Nat
  | [] => 0
  | x :: r => uptoBulkEntry x + uptoBulkEntries r
def uptoBulkEntry {H : Type} : Lit × DataW H → Nat
  | (.string bytes, d) => bytes.length + uptoBulk d + 1
  | (_, d) => uptoBulk d + 1
 end
def uptoSmall : (H : Type) → List (DataW H) → Bool := fun _ ds => decide (uptoBulkAll ds ≤ 1048576)
def OpenSpec.upto (s : _root_.Go.ChangeSpec) : _root_.Go.OpenSpec := { _root_.Go.OpenSpec.ofChange s with cond := some uptoSmall }

/-- 'blazonlaw07.RuleRows', WHERE WHAT IT READS IS OF BULK AT MOST 1048576: true; the input reads as it did. -/
def ruleRowsUptoRow : OpenClaim := { program := "ytmpngoejnmlmbaa", sum := "09b92a4ab9f932205e089a16a2c40be497bdccb1e56188e3a7ba757b605588e5", func := "blazon/blazonlaw07.RuleRows", spec := "ruleRows", unfollowed := true, recurses := true, apart := false, narrowed := true }
def RuleRowsUptoSaid : Prop := ruleRowsUptoRow.holds Try.pinned (OpenSpec.upto ruleRowsSpec)

/-- 'blazonlaw07.RuleLines', WHERE WHAT IT READS IS OF BULK AT MOST 1048576: true; the input reads as it did. -/
def ruleLinesUptoRow : OpenClaim := { program := "ytmpngoejnmlmbaa", sum := "09b92a4ab9f932205e089a16a2c40be497bdccb1e56188e3a7ba757b605588e5", func := "blazon/blazonlaw07.RuleLines", spec := "ruleLines", unfollowed := true, recurses := true, apart := false, narrowed := true }
def RuleLinesUptoSaid : Prop := ruleLinesUptoRow.holds Try.pinned (OpenSpec.upto ruleLinesSpec)

/-- 'blazonlaw07.RuleSilence', WHERE WHAT IT READS IS OF BULK AT MOST 1048576: true; the input reads as it did. -/
def ruleSilenceUptoRow : OpenClaim := { program := "ytmpngoejnmlmbaa", sum := "09b92a4ab9f932205e089a16a2c40be497bdccb1e56188e3a7ba757b605588e5", func := "blazon/blazonlaw07.RuleSilence", spec := "ruleSilence", unfollowed := true, recurses := true, apart := false, narrowed := true }
def RuleSilenceUptoSaid : Prop := ruleSilenceUptoRow.holds Try.pinned (OpenSpec.upto ruleSilenceSpec)

/-- 'blazonlaw07.RuleHolds', WHERE WHAT IT READS IS OF BULK AT MOST 1048576: true; the input reads as it did. -/
def ruleHoldsUptoRow : OpenClaim := { program := "ytmpngoejnmlmbaa", sum := "09b92a4ab9f932205e089a16a2c40be497bdccb1e56188e3a7ba757b605588e5", func := "blazon/blazonlaw07.RuleHolds", spec := "ruleHolds", unfollowed := true, recurses := true, apart := false, narrowed := true }
def RuleHoldsUptoSaid : Prop := ruleHoldsUptoRow.holds Try.pinned (OpenSpec.upto ruleHoldsSpec)

/-- 'blazonlaw07.RuleCompares', WHERE WHAT IT READS IS OF BULK AT MOST 1048576: true; the input reads as it did. -/
def ruleComparesUptoRow : OpenClaim := { program := "ytmpngoejnmlmbaa", sum := "09b92a4ab9f932205e089a16a2c40be497bdccb1e56188e3a7ba757b605588e5", func := "blazon/blazonlaw07.RuleCompares", spec := "ruleCompares", unfollowed := true, recurses := true, apart := false, narrowed := true }
def RuleComparesUptoSaid : Prop := ruleComparesUptoRow.holds Try.pinned (OpenSpec.upto ruleComparesSpec)

/-- 'blazonlaw07.RuleFaults', WHERE WHAT IT READS IS OF BULK AT MOST 1048576: true; the input reads as it did. -/
def ruleFaultsUptoRow : OpenClaim := { program := "ytmpngoejnmlmbaa", sum := "09b92a4ab9f932205e089a16a2c40be497bdccb1e56188e3a7ba757b605588e5", func := "blazon/blazonlaw07.RuleFaults", spec := "ruleFaults", unfollowed := true, recurses := true, apart := false, narrowed := true }
def RuleFaultsUptoSaid : Prop := ruleFaultsUptoRow.holds Try.pinned (OpenSpec.upto ruleFaultsSpec)

/-- 'blazonlaw07.RuleProposes', WHERE WHAT IT READS IS OF BULK AT MOST 1048576: true; the input reads as it did. -/
def ruleProposesUptoRow : OpenClaim := { program := "ytmpngoejnmlmbaa", sum := "09b92a4ab9f932205e089a16a2c40be497bdccb1e56188e3a7ba757b605588e5", func := "blazon/blazonlaw07.RuleProposes", spec := "ruleProposes", unfollowed := true, recurses := true, apart := false, narrowed := true }
def RuleProposesUptoSaid : Prop := ruleProposesUptoRow.holds Try.pinned (OpenSpec.upto ruleProposesSpec)

end Rows
end Go.Proofs.Ytmpngoejnmlmbaa
