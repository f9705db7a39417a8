/-
 Texts of this claim laid together: Region5.
-/
import Derived.Test.YtaeiddoccfaheaaGreatPk02
set_option linter.unusedVariables false
set_option linter.unusedSimpArgs false
namespace Go.Proofs.YtaeiddoccfaheaaGreat
open Go
variable {P : Program} {ops : Array Oper} {Q : Exit -> Act -> World -> Prop}
end Go.Proofs.YtaeiddoccfaheaaGreat
