/-
  A bus handed in: sz.., eq.., to.., and of what is asked.
-/
import Derived.Test.YtmcjklicepaiaaaProg
import Derived.Test.YtmcjklicepaiaaaPk01
import Derived.Test.YtmcjklicepaiaaaQUniMap
import Derived.Test.YtmcjklicepaiaaaPk05
import Derived.OwnWalk
import Derived.KernelRfl
import Derived.WalkSmall
import Derived.Deep.QuietTactic
import Derived.BigQuiet
import Derived.StillTailTactics
namespace Go.Proofs.Ytmcjklicepaiaaa
set_option linter.unusedVariables false
set_option linter.unusedSimpArgs false
open Go.RowKit Go.ChangeShapes

def sm_reqs (l : List Req) : Prop := l.length ≤ 1048576 ∧ ∀ k (h : k < l.length), sm_Req l[k]

theorem info_reqs : (Try.prog.info? 26).map (fun i => (i.zero, i.size, i.bytes)) = some (some (.agg #[.int .i64 0, .int .i64 0, .int .i64 0, .int .i64 0, .bool false, .slice none 0 0, .slice none 0 0]), 7, 88) := by kernel_rfl

def sm_reqss (l : List (List Req)) : Prop := l.length ≤ 1048576 ∧ ∀ k (h : k < l.length), sm_reqs l[k]

theorem info_reqss : (Try.prog.info? 41).map (fun i => (i.zero, i.size, i.bytes)) = some (some (.slice none 0 0), 1, 24) := by kernel_rfl

structure Bus where
  map : List MR
  lat : List Int
  progs : List (List Req)
  deriving DecidableEq

def busR : Pr Bus := fun w x cs fp => ∃ (v0 v1 v2 : Value) (fp0 fp1 fp2 : List Nat), cs = [v0, v1, v2] ∧ fp = fp0 ++ fp1 ++ fp2 ∧ SlR 4 mrR w x.map v0 fp0 ∧ SlR 1 intR w x.lat v1 fp1 ∧ SlR 1 (slR 7 reqR) w x.progs v2 fp2
theorem busR_fits : Fits 3 busR := by
  refine ⟨fun ⟨v0, v1, v2, fp0, fp1, fp2, e, e2, g0, g1, g2⟩ => by rw [e]; rfl, fun ⟨v0, v1, v2, fp0, fp1, fp2, e, e2, g0, g1, g2⟩ b hb => ?_, fun ⟨v0, v1, v2, fp0, fp1, fp2, e, e2, g0, g1, g2⟩ hs hz => ⟨v0, v1, v2, fp0, fp1, fp2, e, e2, g0.same mrR_fits (hs.mono (fun b hb => by rw [e2]; simp [hb])) hz, g1.same intR_fits (hs.mono (fun b hb => by rw [e2]; simp [hb])) hz, g2.same (slR_fits reqR_fits) (hs.mono (fun b hb => by rw [e2]; simp [hb])) hz⟩⟩
  rw [e2] at hb
  simp only [List.mem_append] at hb
  rcases hb with ((hb | hb) | hb)
  · exact g0.lt mrR_fits b hb
  · exact g1.lt intR_fits b hb
  · exact g2.lt (slR_fits reqR_fits) b hb

def sm_Bus (x : Bus) : Prop := sm_mrs x.map ∧ sm_ints x.lat ∧ sm_reqss x.progs

end Go.Proofs.Ytmcjklicepaiaaa
