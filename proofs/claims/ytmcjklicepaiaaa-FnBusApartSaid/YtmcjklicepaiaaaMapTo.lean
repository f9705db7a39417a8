/-
  Ranges handed in: szMapRangeS, toMapRange, toMapRangeS, eqMapRange, eqMapRangeS.
-/
import Derived.Test.YtmcjklicepaiaaaProg
import Derived.Test.YtmcjklicepaiaaaBase
import Derived.Test.YtmcjklicepaiaaaMap
import Derived.OwnWalk
import Derived.StillTailTactics
import Derived.WalkSmall
import Derived.KernelRfl
namespace Go.Proofs.Ytmcjklicepaiaaa
set_option linter.unusedVariables false
set_option linter.unusedSimpArgs false
open Go.RowKit Go.ChangeShapes

def MrC (x : MR) : List Value := [.int .i64 x.fr, .int .i64 x.to, .int .i64 x.sl, .bool x.only]
theorem MrC_len (x : MR) : (MrC x).length = 4 := rfl

theorem infoMr : (Try.prog.info? 31).map (fun i => (i.zero, i.size, i.bytes)) = some (some (.agg #[.int .i64 0, .int .i64 0, .int .i64 0, .bool false]), 4, 32) := by kernel_rfl

end Go.Proofs.Ytmcjklicepaiaaa
