/-
  What comes of something, in the one form: sz.., eq.., to...
-/
import Derived.Test.YtaeiddoccfaheaaDoorUni
import Derived.Test.YtaeiddoccfaheaaDoorRsp
namespace Go.Proofs.YtaeiddoccfaheaaDoor
set_option linter.unusedVariables false
set_option linter.unusedSimpArgs false
open Go.RowKit

def sm_Rsp (x : Rsp) : Prop := sm_ints x.data

theorem opens_Rsp : Opens Tryd.prog 24 rspR := opens_rsp

theorem sz_Rsp (x : Rsp) (v : Value) (fp : List Nat) (left : Int) (h0 : 0 ≤ left) (h1 : left ≤ 1048576) (w : World) (g : SlR 1 intR w x.data v fp) :
    Calls Tryd.prog 7 #[.agg #[.int .i64 x.id, .int .i64 x.code, v], .int .i64 left] w (SzP left (sm_Rsp x) w) :=
  (szRsp_any x v fp left h0 h1 w g).mono fun _ _ ⟨he, hb⟩ => SzP.exact h0 h1 he id hb

theorem eq_Rsp (x y : Rsp) (v1 v2 : Value) (fp1 fp2 : List Nat) (w : World) (g1 : SlR 1 intR w x.data v1 fp1) (g2 : SlR 1 intR w y.data v2 fp2) :
    Calls Tryd.prog 11 #[.agg #[.int .i64 x.id, .int .i64 x.code, v1], .agg #[.int .i64 y.id, .int .i64 y.code, v2]] w fun e w' => e = .returned (.bool (decide (x = y))) ∧ Below w.heap.size w w' := eqRsp_any x y v1 v2 fp1 fp2 w g1 g2

theorem to_Rsp (x : Rsp) (v : Value) (fp : List Nat) (hs : sm_Rsp x) (w : World) (g : SlR 1 intR w x.data v fp) :
    Calls Tryd.prog 9 #[.agg #[.int .i64 x.id, .int .i64 x.code, v]] w fun e w' => ∃ v' fp', e = .returned (.agg #[.int .i64 x.id, .int .i64 x.code, v']) ∧ SlR 1 intR w' x.data v' fp' ∧ New fp' w w' ∧ Below w.heap.size w w' := toRsp_any x v fp hs w g

end Go.Proofs.YtaeiddoccfaheaaDoor
