/-
  The reference's text of a face.
-/
import Derived.Test.YtfklckjfbnaoeaaGreatDoorWaK
import Derived.Test.YtfklckjfbnaoeaaGreatDoorFcPf
set_option linter.unusedSimpArgs false
set_option linter.unusedVariables false
namespace Go.Proofs.YtfklckjfbnaoeaaGreatDoor
open Go.RowKit

end Go.Proofs.YtfklckjfbnaoeaaGreatDoor
