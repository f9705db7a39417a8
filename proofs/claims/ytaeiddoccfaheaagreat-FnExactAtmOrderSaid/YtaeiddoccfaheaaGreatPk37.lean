/-
 Texts of this claim laid together: Tlm.
-/
import Derived.Test.YtaeiddoccfaheaaGreatProg
import Derived.Test.YtaeiddoccfaheaaGreatPk04
import Derived.Test.YtaeiddoccfaheaaGreatPk28
import Derived.Test.YtaeiddoccfaheaaGreatPk30
import Derived.OwnWalk
import Derived.KernelRfl
import Derived.WalkSmall
set_option linter.unusedVariables false
set_option linter.unusedSimpArgs false
namespace Go.Proofs.YtaeiddoccfaheaaGreat
open Go.RowKit Go.ChangeShapes
structure Tlm where
 atm : Atm
 asked : List Int
 wait : List Job
 done : List Job
 told : List Job
 deriving DecidableEq
end Go.Proofs.YtaeiddoccfaheaaGreat
