/-
  Two slices of ranges alike.
-/
import Derived.Test.YtmcjklicepaiaaaPk30
import Derived.Deep.QuietTactic
import Derived.BigQuiet
import Derived.OwnWalk
import Derived.StillTailTactics
import Derived.WalkSmall
import Derived.KernelRfl
namespace Go.Proofs.Ytmcjklicepaiaaa
set_option linter.unusedVariables false
set_option linter.unusedSimpArgs false
open Go.RowKit

end Go.Proofs.Ytmcjklicepaiaaa
