/-
  Ranges, in the one form: sz.., eq.., to...
-/
import Derived.Test.YtmcjklicepaiaaaPk02
import Derived.Test.YtmcjklicepaiaaaQMapEq
namespace Go.Proofs.Ytmcjklicepaiaaa
set_option linter.unusedVariables false
set_option linter.unusedSimpArgs false
open Go.RowKit

def sm_mrs (l : List MR) : Prop := l.length ≤ 1048576

end Go.Proofs.Ytmcjklicepaiaaa
