/-
  No cell of these rows narrows 'for every input' (looked for: loops, veiled, ifaces, maps, wideKeys, modest, calm, conditions, laid).
  DERIVED. THE GIVEN ROWS OF THIS SEAT. 6 by the template 'for every input the law returns true; each argument reads behind the call as it read before'; 0 by the template 'total and deterministic' (their statements: YtmpngoejnmlmbaaGreatTotals.lean).
  GIVEN WITH THE SEED: the statements are not yours to turn. If you find one false, say at which input.
  Laid BY PROGRAM, IN A SANDBOX (cutbox-rows.mjs): the forced cells as the released guide's own fill.sh prints them over the translation 3cb70f033d431b11… (all of the seat's roots in one cut). By AI agents, Wed Nov 11 2026. No macro, syntax, notation, axiom, sorry.
-/
import Derived.Test.YtmpngoejnmlmbaaGreatChecked
import GoSem.Claim
import GoSem.ClaimJoined
import GoSem.ClaimMapViews
import Derived.JoinedTies
import Derived.KernelRfl
namespace Go.Proofs.YtmpngoejnmlmbaaGreat
/- THE CELL 'sum', in the pinned program and in every row, IS THE sha256 OF THE DUMP (.gsa) THAT YtmpngoejnmlmbaaGreatProg.lean LOADS. Nothing in Lean hashes anything: it is a label: what it is worth is what the hold of that sum in a sandbox is worth. -/
noncomputable def Tryz.pinned : Pinned := { name := "ytmpngoejnmlmbaagreat", sum := "3cb70f033d431b11caa0b848cfdb1b9605caa9dac81548e959499413044802aa", checked := Tryz.checked }
namespace Rows
def none {H : Type} : Left H := { results := [], args := [] }

/-- 'blazonlaw07.RuleHeld': WHATEVER THE INPUT: true; the input reads as it did. -/
def ruleHeldSpec : ChangeSpec := { name := "ruleHeld", fn := fun _ => fun
  | [d] => { results := [.lit (.bool true)], args := [d] }
  | _ => none }
def ruleHeldRow : OpenClaim := { program := "ytmpngoejnmlmbaagreat", sum := "3cb70f033d431b11caa0b848cfdb1b9605caa9dac81548e959499413044802aa", func := "blazon/blazonlaw07.RuleHeld", spec := "ruleHeld", unfollowed := true, recurses := true, apart := false }
def RuleHeldSaid : Prop := ruleHeldRow.holds Tryz.pinned (OpenSpec.ofChange ruleHeldSpec)

/-- ITS FALSE NEIGHBOUR: 'it returns false'. Refute it at one input. -/
def ruleHeldWrong : ChangeSpec := { name := "ruleHeld", fn := fun _ => fun
  | [d] => { results := [.lit (.bool false)], args := [d] }
  | _ => none }
def RuleHeldWrongFalsely : Prop := ruleHeldRow.holds Tryz.pinned (OpenSpec.ofChange ruleHeldWrong)

/-- 'blazonlaw07.RuleMirrors': WHATEVER THE INPUT: true; the input reads as it did. -/
def ruleMirrorsSpec : ChangeSpec := { name := "ruleMirrors", fn := fun _ => fun
  | [d] => { results := [.lit (.bool true)], args := [d] }
  | _ => none }
def ruleMirrorsRow : OpenClaim := { program := "ytmpngoejnmlmbaagreat", sum := "3cb70f033d431b11caa0b848cfdb1b9605caa9dac81548e959499413044802aa", func := "blazon/blazonlaw07.RuleMirrors", spec := "ruleMirrors", unfollowed := true, recurses := true, apart := false }
def RuleMirrorsSaid : Prop := ruleMirrorsRow.holds Tryz.pinned (OpenSpec.ofChange ruleMirrorsSpec)

/-- ITS FALSE NEIGHBOUR: 'it returns false'. Refute it at one input. -/
def ruleMirrorsWrong : ChangeSpec := { name := "ruleMirrors", fn := fun _ => fun
  | [d] => { results := [.lit (.bool false)], args := [d] }
  | _ => none }
def RuleMirrorsWrongFalsely : Prop := ruleMirrorsRow.holds Tryz.pinned (OpenSpec.ofChange ruleMirrorsWrong)

/-- 'blazonlaw07.RuleProposed': WHATEVER THE INPUT: true; the input reads as it did. -/
def ruleProposedSpec : ChangeSpec := { name := "ruleProposed", fn := fun _ => fun
  | [d] => { results := [.lit (.bool true)], args := [d] }
  | _ => none }
def ruleProposedRow : OpenClaim := { program := "ytmpngoejnmlmbaagreat", sum := "3cb70f033d431b11caa0b848cfdb1b9605caa9dac81548e959499413044802aa", func := "blazon/blazonlaw07.RuleProposed", spec := "ruleProposed", unfollowed := true, recurses := true, apart := false }
def RuleProposedSaid : Prop := ruleProposedRow.holds Tryz.pinned (OpenSpec.ofChange ruleProposedSpec)

/-- ITS FALSE NEIGHBOUR: 'it returns false'. Refute it at one input. -/
def ruleProposedWrong : ChangeSpec := { name := "ruleProposed", fn := fun _ => fun
  | [d] => { results := [.lit (.bool false)], args := [d] }
  | _ => none }
def RuleProposedWrongFalsely : Prop := ruleProposedRow.holds Tryz.pinned (OpenSpec.ofChange ruleProposedWrong)

/-- 'blazonlaw07.RuleHistories': WHATEVER THE INPUT: true; the input reads as it did. -/
def ruleHistoriesSpec : ChangeSpec := { name := "ruleHistories", fn := fun _ => fun
  | [d] => { results := [.lit (.bool true)], args := [d] }
  | _ => none }
def ruleHistoriesRow : OpenClaim := { program := "ytmpngoejnmlmbaagreat", sum := "3cb70f033d431b11caa0b848cfdb1b9605caa9dac81548e959499413044802aa", func := "blazon/blazonlaw07.RuleHistories", spec := "ruleHistories", unfollowed := true, recurses := true, apart := false }
def RuleHistoriesSaid : Prop := ruleHistoriesRow.holds Tryz.pinned (OpenSpec.ofChange ruleHistoriesSpec)

/-- ITS FALSE NEIGHBOUR: 'it returns false'. Refute it at one input. -/
def ruleHistoriesWrong : ChangeSpec := { name := "ruleHistories", fn := fun _ => fun
  | [d] => { results := [.lit (.bool false)], args := [d] }
  | _ => none }
def RuleHistoriesWrongFalsely : Prop := ruleHistoriesRow.holds Tryz.pinned (OpenSpec.ofChange ruleHistoriesWrong)

/-- 'blazonlaw07.RuleMoments': WHATEVER THE INPUT: true; the input reads as it did. -/
def ruleMomentsSpec : ChangeSpec := { name := "ruleMoments", fn := fun _ => fun
  | [d1, d2] => { results := [.lit (.bool true)], args := [d1, d2] }
  | _ => none }
def ruleMomentsRow : OpenClaim := { program := "ytmpngoejnmlmbaagreat", sum := "3cb70f033d431b11caa0b848cfdb1b9605caa9dac81548e959499413044802aa", func := "blazon/blazonlaw07.RuleMoments", spec := "ruleMoments", unfollowed := true, recurses := true, apart := false }
def RuleMomentsSaid : Prop := ruleMomentsRow.holds Tryz.pinned (OpenSpec.ofChange ruleMomentsSpec)

/-- ITS FALSE NEIGHBOUR: 'it returns false'. Refute it at one input. -/
def ruleMomentsWrong : ChangeSpec := { name := "ruleMoments", fn := fun _ => fun
  | [d1, d2] => { results := [.lit (.bool false)], args := [d1, d2] }
  | _ => none }
def RuleMomentsWrongFalsely : Prop := ruleMomentsRow.holds Tryz.pinned (OpenSpec.ofChange ruleMomentsWrong)

/-- 'blazonlaw07.RuleWays': WHATEVER THE INPUT: true; the input reads as it did. -/
def ruleWaysSpec : ChangeSpec := { name := "ruleWays", fn := fun _ => fun
  | [d] => { results := [.lit (.bool true)], args := [d] }
  | _ => none }
def ruleWaysRow : OpenClaim := { program := "ytmpngoejnmlmbaagreat", sum := "3cb70f033d431b11caa0b848cfdb1b9605caa9dac81548e959499413044802aa", func := "blazon/blazonlaw07.RuleWays", spec := "ruleWays", unfollowed := true, recurses := true, apart := false }
def RuleWaysSaid : Prop := ruleWaysRow.holds Tryz.pinned (OpenSpec.ofChange ruleWaysSpec)

/-- ITS FALSE NEIGHBOUR: 'it returns false'. Refute it at one input. -/
def ruleWaysWrong : ChangeSpec := { name := "ruleWays", fn := fun _ => fun
  | [d] => { results := [.lit (.bool false)], args := [d] }
  | _ => none }
def RuleWaysWrongFalsely : Prop := ruleWaysRow.holds Tryz.pinned (OpenSpec.ofChange ruleWaysWrong)

/- THE SECOND FORM. 'bulk': how many values and letters a reading holds, each counted each time it is reached (what is shared counts as often as it is met; a slice's spare places count too). A statement '..UptoSaid' is the law's where the arguments, and the package variables that the reading takes, are together of bulk at most 1048576: NARROWER than '..Said'. Prove '..Said' where nothing that the law and all that it calls make is longer than what came in: it says more and counts as full. Else prove '..UptoSaid'. A law counts once. -/
mutual
def uptoBulk {H : Type} : DataW H → Nat
  | .lit (.string bytes) => bytes.length + 1
  | .lit _ => 1
  | .nil => 1
  | .ptr d => uptoBulk d + 1
  | .slice elems spare => uptoBulkAll elems + uptoBulkAll spare + 1
  | .agg parts => uptoBulkAll parts + 1
  | .iface _ d => uptoBulk d + 1
  | .map entries => uptoBulkEntries entries + 1
  | .held _ => 1
def uptoBulkAll {H : Type} : List (DataW H) → Nat
  | [] => 0
  | d :: r => uptoBulk d + uptoBulkAll r
def uptoBulkEntries {H : Type} : List (Lit × DataW H) → Nat
  | [] => 0
  | x :: r => uptoBulkEntry x + uptoBulkEntries r
def uptoBulkEntry {H : Type} : Lit × DataW H → Nat
  | (.string bytes, d) => bytes.length + uptoBulk d + 1
  | (_, d) => uptoBulk d + 1
 end
def uptoSmall : (H : Type) → List (DataW H) → Bool := fun _ ds => decide (uptoBulkAll ds ≤ 1048576)
def OpenSpec.upto (s : _root_.Go.ChangeSpec) : _root_.Go.OpenSpec := { _root_.Go.OpenSpec.ofChange s with cond := some uptoSmall }

/-- 'blazonlaw07.RuleHeld', WHERE WHAT IT READS IS OF BULK AT MOST 1048576: true; the input reads as it did. -/
def ruleHeldUptoRow : OpenClaim := { program := "ytmpngoejnmlmbaagreat", sum := "3cb70f033d431b11caa0b848cfdb1b9605caa9dac81548e959499413044802aa", func := "blazon/blazonlaw07.RuleHeld", spec := "ruleHeld", unfollowed := true, recurses := true, apart := false, narrowed := true }
def RuleHeldUptoSaid : Prop := ruleHeldUptoRow.holds Tryz.pinned (OpenSpec.upto ruleHeldSpec)

/-- 'blazonlaw07.RuleMirrors', WHERE WHAT IT READS IS OF BULK AT MOST 1048576: true; the input reads as it did. -/
def ruleMirrorsUptoRow : OpenClaim := { program := "ytmpngoejnmlmbaagreat", sum := "3cb70f033d431b11caa0b848cfdb1b9605caa9dac81548e959499413044802aa", func := "blazon/blazonlaw07.RuleMirrors", spec := "ruleMirrors", unfollowed := true, recurses := true, apart := false, narrowed := true }
def RuleMirrorsUptoSaid : Prop := ruleMirrorsUptoRow.holds Tryz.pinned (OpenSpec.upto ruleMirrorsSpec)

/-- 'blazonlaw07.RuleProposed', WHERE WHAT IT READS IS OF BULK AT MOST 1048576: true; the input reads as it did. -/
def ruleProposedUptoRow : OpenClaim := { program := "ytmpngoejnmlmbaagreat", sum := "3cb70f033d431b11caa0b848cfdb1b9605caa9dac81548e959499413044802aa", func := "blazon/blazonlaw07.RuleProposed", spec := "ruleProposed", unfollowed := true, recurses := true, apart := false, narrowed := true }
def RuleProposedUptoSaid : Prop := ruleProposedUptoRow.holds Tryz.pinned (OpenSpec.upto ruleProposedSpec)

/-- 'blazonlaw07.RuleHistories', WHERE WHAT IT READS IS OF BULK AT MOST 1048576: true; the input reads as it did. -/
def ruleHistoriesUptoRow : OpenClaim := { program := "ytmpngoejnmlmbaagreat", sum := "3cb70f033d431b11caa0b848cfdb1b9605caa9dac81548e959499413044802aa", func := "blazon/blazonlaw07.RuleHistories", spec := "ruleHistories", unfollowed := true, recurses := true, apart := false, narrowed := true }
def RuleHistoriesUptoSaid : Prop := ruleHistoriesUptoRow.holds Tryz.pinned (OpenSpec.upto ruleHistoriesSpec)

/-- 'blazonlaw07.RuleMoments', WHERE WHAT IT READS IS OF BULK AT MOST 1048576: true; the input reads as it did. -/
def ruleMomentsUptoRow : OpenClaim := { program := "ytmpngoejnmlmbaagreat", sum := "3cb70f033d431b11caa0b848cfdb1b9605caa9dac81548e959499413044802aa", func := "blazon/blazonlaw07.RuleMoments", spec := "ruleMoments", unfollowed := true, recurses := true, apart := false, narrowed := true }
def RuleMomentsUptoSaid : Prop := ruleMomentsUptoRow.holds Tryz.pinned (OpenSpec.upto ruleMomentsSpec)

/-- 'blazonlaw07.RuleWays', WHERE WHAT IT READS IS OF BULK AT MOST 1048576: true; the input reads as it did. -/
def ruleWaysUptoRow : OpenClaim := { program := "ytmpngoejnmlmbaagreat", sum := "3cb70f033d431b11caa0b848cfdb1b9605caa9dac81548e959499413044802aa", func := "blazon/blazonlaw07.RuleWays", spec := "ruleWays", unfollowed := true, recurses := true, apart := false, narrowed := true }
def RuleWaysUptoSaid : Prop := ruleWaysUptoRow.holds Tryz.pinned (OpenSpec.upto ruleWaysSpec)

end Rows
end Go.Proofs.YtmpngoejnmlmbaaGreat
