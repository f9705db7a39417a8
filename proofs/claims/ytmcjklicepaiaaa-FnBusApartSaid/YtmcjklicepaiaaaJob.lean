/-
  Jobs handed in: sz.., eq.., to.. of one, and of slices of them.
-/
import Derived.Test.YtmcjklicepaiaaaProg
import Derived.Test.YtmcjklicepaiaaaBase
import Derived.Test.YtmcjklicepaiaaaUniRsp
import Derived.OwnWalk
import Derived.KernelRfl
import Derived.WalkSmall
import Derived.Deep.QuietTactic
import Derived.BigQuiet
import Derived.StillTailTactics
namespace Go.Proofs.Ytmcjklicepaiaaa
set_option linter.unusedVariables false
set_option linter.unusedSimpArgs false
open Go.RowKit Go.ChangeShapes

structure Job where
  who : Int
  n : Int
  rsp : Rsp
  deriving DecidableEq

def jobR : Pr Job := fun w x cs fp => ∃ (v0 : Value) (fp0 : List Nat), cs = [.int .i64 x.who, .int .i64 x.n, .int .i64 x.rsp.id, .int .i64 x.rsp.code, v0] ∧ fp = fp0 ∧ SlR 1 intR w x.rsp.data v0 fp0
theorem jobR_fits : Fits 5 jobR := by
  refine ⟨fun ⟨v0, fp0, e, e2, g0⟩ => by rw [e]; rfl, fun ⟨v0, fp0, e, e2, g0⟩ b hb => ?_, fun ⟨v0, fp0, e, e2, g0⟩ hs hz => ⟨v0, fp0, e, e2, g0.same intR_fits (hs.mono (fun b hb => by rw [e2]; simp [hb])) hz⟩⟩
  rw [e2] at hb
  · exact g0.lt intR_fits b hb

def sm_Job (x : Job) : Prop := sm_Rsp x.rsp

def sm_jobs (l : List Job) : Prop := l.length ≤ 1048576 ∧ ∀ k (h : k < l.length), sm_Job l[k]

theorem info_jobs : (Try.prog.info? 64).map (fun i => (i.zero, i.size, i.bytes)) = some (some (.agg #[.int .i64 0, .int .i64 0, .int .i64 0, .int .i64 0, .slice none 0 0]), 5, 56) := by kernel_rfl

end Go.Proofs.Ytmcjklicepaiaaa
