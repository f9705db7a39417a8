/-
 Texts of this claim laid together: Apart.
-/
import Derived.Test.YtmcjklicepaiaaaPk12
import Derived.StillTailTactics
set_option linter.unusedVariables false
set_option linter.unusedSimpArgs false
namespace Go.Proofs.Ytmcjklicepaiaaa
open Go.RowKit Go.ChangeShapes
theorem busOk_progs {c:Bus} (h:busOk c=true):c.progs.length=3:=by
 unfold busOk at h;simp only [Bool.and_eq_true,decide_eq_true_eq] at h;omega
theorem l1In_v {a b c:Int} {x:Bool} (h:inB a b c=x) (w:World) :
 Calls Try.prog 70 #[.int .i64 a,.int .i64 b,.int .i64 c] w fun e w'=>e = .returned (.bool x)∧w'=w:=by
 rw [<- h];exact l1In_q a b c w
end Go.Proofs.Ytmcjklicepaiaaa
