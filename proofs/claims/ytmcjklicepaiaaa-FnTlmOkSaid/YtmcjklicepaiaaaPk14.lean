/-
 Texts of this claim laid together: BApart.
-/
import Derived.Test.YtmcjklicepaiaaaPk13
import Derived.StillTailTactics
set_option linter.unusedVariables false
set_option linter.unusedSimpArgs false
namespace Go.Proofs.Ytmcjklicepaiaaa
open Go.RowKit Go.ChangeShapes
end Go.Proofs.Ytmcjklicepaiaaa
