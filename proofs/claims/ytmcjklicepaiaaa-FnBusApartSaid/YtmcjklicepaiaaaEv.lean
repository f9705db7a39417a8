/-
  Things that happen, handed in: eqTlmEvent, toTlmEvent, and of slices of them sz.., eq.., to...
-/
import Derived.Test.YtmcjklicepaiaaaProg
import Derived.Test.YtmcjklicepaiaaaBase
import Derived.Test.YtmcjklicepaiaaaUni
import Derived.OwnWalk
import Derived.KernelRfl
import Derived.WalkSmall
import Derived.Deep.QuietTactic
import Derived.BigQuiet
import Derived.StillTailTactics
namespace Go.Proofs.Ytmcjklicepaiaaa
set_option linter.unusedVariables false
set_option linter.unusedSimpArgs false
open Go.RowKit Go.ChangeShapes

structure Ev where
  kind : Int
  who : Int
  n : Int
  deriving DecidableEq

def evR : Pr Ev := fun _ x cs fp => cs = [.int .i64 x.kind, .int .i64 x.who, .int .i64 x.n] ∧ fp = []
theorem evR_fits : Fits 3 evR := ⟨fun h => by rw [h.1]; rfl, fun h b hb => by rw [h.2] at hb; simp at hb, fun h _ _ => h⟩

def sm_evs (l : List Ev) : Prop := l.length ≤ 1048576

theorem info_evs : (Try.prog.info? 47).map (fun i => (i.zero, i.size, i.bytes)) = some (some (.agg #[.int .i64 0, .int .i64 0, .int .i64 0]), 3, 24) := by kernel_rfl

end Go.Proofs.Ytmcjklicepaiaaa
