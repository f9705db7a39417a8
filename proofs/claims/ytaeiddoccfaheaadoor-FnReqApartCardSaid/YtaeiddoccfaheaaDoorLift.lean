/-
  Facts on the translated program that each statement's last step asks for.
-/
import Derived.Test.YtaeiddoccfaheaaDoorRows
import Derived.Test.YtaeiddoccfaheaaDoorBase
import Derived.WalkKit
import Derived.ProofKit
import Derived.OpenShut
namespace Go.Proofs.YtaeiddoccfaheaaDoor
set_option linter.unusedVariables false
set_option linter.unusedSimpArgs false
open Go.ChangeShapes Go.WideShapes Go.ChangeAt Go.RowKit
theorem own : ownKnob Tryd.prog.godebug = none := by kernel_rfl
theorem laidOut : laidOutB Tryd.prog = true := by kernel_rfl
end Go.Proofs.YtaeiddoccfaheaaDoor
