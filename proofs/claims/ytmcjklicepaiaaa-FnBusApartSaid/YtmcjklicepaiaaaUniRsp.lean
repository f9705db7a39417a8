/-
  What comes of something, in the one form: sz.., eq.., to...
-/
import Derived.Test.YtmcjklicepaiaaaUni
import Derived.Test.YtmcjklicepaiaaaRsp
namespace Go.Proofs.Ytmcjklicepaiaaa
set_option linter.unusedVariables false
set_option linter.unusedSimpArgs false
open Go.RowKit

def sm_Rsp (x : Rsp) : Prop := sm_ints x.data

end Go.Proofs.Ytmcjklicepaiaaa
