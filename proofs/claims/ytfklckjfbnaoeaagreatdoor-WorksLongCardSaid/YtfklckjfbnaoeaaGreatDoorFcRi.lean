/-
  The reference's reading of an item.
-/
import Derived.Test.YtfklckjfbnaoeaaGreatDoorFcRd
import Derived.Test.YtfklckjfbnaoeaaGreatDoorFcWr
import Derived.Test.YtfklckjfbnaoeaaGreatDoorFcPu
set_option linter.unusedSimpArgs false
set_option linter.unusedVariables false
namespace Go.Proofs.YtfklckjfbnaoeaaGreatDoor
open Go.RowKit

theorem it_size (x : It) : (Tryz.prog.info? 320).map (·.size) = some (itC x).toArray.size := by
  show _ = some 7
  kernel_rfl
theorem it_one (x : It) : (itC x).toArray.all (·.oneCell') = true := by simp [itC, Value.oneCell']
theorem SB_eqb (a b : List UInt8) : ((SB a).toList == (SB b).toList) = decide (a = b) := by rw [SB_toList, SB_toList, Bool.eq_iff_iff]; simp

end Go.Proofs.YtfklckjfbnaoeaaGreatDoor
