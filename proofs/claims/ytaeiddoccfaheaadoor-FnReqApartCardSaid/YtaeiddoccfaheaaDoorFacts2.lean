/-
  Facts on rows that the call owns, for statements whose order is open.
-/
import Derived.Test.YtaeiddoccfaheaaDoorFacts
import Derived.Test.YtaeiddoccfaheaaDoorOwn
namespace Go.Proofs.YtaeiddoccfaheaaDoor
set_option linter.unusedVariables false
set_option linter.unusedSimpArgs false
open Go.RowKit

def FOwn {α : Type} (K : Nat) (c : α → List Value) (e : TypeId) (base : Nat) (l : List α) : Fact := fun v w => OwnR K c e base w v l
theorem stOwn {α : Type} (K : Nat) (c : α → List Value) (e : TypeId) (base : Nat) (l : List α) : Stable [] (FOwn K c e base l) := fun _ _ _ h hc => OwnR.below h hc.below

end Go.Proofs.YtaeiddoccfaheaaDoor
