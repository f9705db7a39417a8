/-
  What is asked, handed in: szReqReq, eqReqReq, toReqReq.
-/
import Derived.Test.YtmcjklicepaiaaaProg
import Derived.Test.YtmcjklicepaiaaaBase
import Derived.Test.YtmcjklicepaiaaaUni
import Derived.OwnWalk
import Derived.KernelRfl
import Derived.WalkSmall
namespace Go.Proofs.Ytmcjklicepaiaaa
set_option linter.unusedVariables false
set_option linter.unusedSimpArgs false
open Go.RowKit Go.ChangeShapes

structure Req where
  id : Int
  kind : Int
  addr : Int
  many : Int
  wrap : Bool
  data : List Int
  lanes : List Int
  deriving DecidableEq

def reqR : Pr Req := fun w x cs fp => ∃ (v0 v1 : Value) (fp0 fp1 : List Nat), cs = [.int .i64 x.id, .int .i64 x.kind, .int .i64 x.addr, .int .i64 x.many, .bool x.wrap, v0, v1] ∧ fp = fp0 ++ fp1 ∧ SlR 1 intR w x.data v0 fp0 ∧ SlR 1 intR w x.lanes v1 fp1
theorem reqR_fits : Fits 7 reqR := by
  refine ⟨fun ⟨v0, v1, fp0, fp1, e, e2, g0, g1⟩ => by rw [e]; rfl, fun ⟨v0, v1, fp0, fp1, e, e2, g0, g1⟩ b hb => ?_, fun ⟨v0, v1, fp0, fp1, e, e2, g0, g1⟩ hs hz => ⟨v0, v1, fp0, fp1, e, e2, g0.same intR_fits (hs.mono (fun b hb => by rw [e2]; simp [hb])) hz, g1.same intR_fits (hs.mono (fun b hb => by rw [e2]; simp [hb])) hz⟩⟩
  rw [e2] at hb
  simp only [List.mem_append] at hb
  rcases hb with (hb | hb)
  · exact g0.lt intR_fits b hb
  · exact g1.lt intR_fits b hb

def sm_Req (x : Req) : Prop := sm_ints x.data ∧ sm_ints x.lanes

end Go.Proofs.Ytmcjklicepaiaaa
