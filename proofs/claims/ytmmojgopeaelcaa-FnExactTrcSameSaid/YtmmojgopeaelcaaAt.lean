/-
  What lies in a block just laid, by its number. No program in sight.
-/
import Derived.Test.YtmmojgopeaelcaaBase
namespace Go.Proofs.Ytmmojgopeaelcaa
set_option linter.unusedVariables false
set_option linter.unusedSimpArgs false
open Go.RowKit

theorem alloc1_at (w : World) (A : Array Value) (T : TypeId) (i : Nat) {n : Nat} {v : Value} (h : A[i]? = some v) (hn : n = w.heap.size) : (w.alloc (.cells A T)).cell? ⟨n, i, none⟩ = some v := by
  subst hn; exact alloc1_new w A T i h

end Go.Proofs.Ytmmojgopeaelcaa
