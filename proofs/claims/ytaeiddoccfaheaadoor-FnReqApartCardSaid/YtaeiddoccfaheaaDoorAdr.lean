/-
  What the functions on single numbers return: in, l1In, AdrOk (both), isWord.
-/
import Derived.Test.YtaeiddoccfaheaaDoorProg
import Derived.Test.YtaeiddoccfaheaaDoorBase
namespace Go.Proofs.YtaeiddoccfaheaaDoor
set_option linter.unusedVariables false
set_option linter.unusedSimpArgs false
open Go.RowKit

theorem l1In_any (a b c : Int) (w : World) :
    Calls Tryd.prog 33 #[.int .i64 a, .int .i64 b, .int .i64 c] w fun e w' => e = .returned (.bool (inB a b c)) ∧ w = w' := by
  go_enter Tryd.func33, Tryd.ntmps33
  go_wp2
  all_goals go_ret
  all_goals refine ⟨ret_bool ?_, rfl⟩
  all_goals (simp [inB]; try omega)

theorem in_any (a b c : Int) (w : World) :
    Calls Tryd.prog 39 #[.int .i64 a, .int .i64 b, .int .i64 c] w fun e w' => e = .returned (.bool (inB a b c)) ∧ w = w' := by
  go_enter Tryd.func39, Tryd.ntmps39
  go_wp2
  all_goals go_ret
  all_goals refine ⟨ret_bool ?_, rfl⟩
  all_goals (simp [inB]; try omega)

theorem sAdrOk_any (a m : Int) (wr : Bool) (w : World) :
    Calls Tryd.prog 37 #[.int .i64 a, .int .i64 m, .bool wr] w fun e w' => e = .returned (.bool (adrOk a m wr)) ∧ w = w' := by
  by_cases h1 : m = 1
  case' neg => by_cases h2 : m = 2
  case' neg => by_cases h4 : m = 4
  all_goals try subst m
  all_goals
    go_enter Tryd.func37, Tryd.ntmps37
    go_wp2
    all_goals go_ret
    all_goals refine ⟨ret_bool ?_, rfl⟩
    all_goals (first | (cases wr <;> simp_all [adrOk] <;> omega) | (cases wr <;> simp_all [adrOk]))

theorem iAdrOk_any (a m : Int) (wr : Bool) (w : World) :
    Calls Tryd.prog 35 #[.int .i64 a, .int .i64 m, .bool wr] w fun e w' => e = .returned (.bool (adrOk a m wr)) ∧ w = w' := by
  by_cases h1 : m = 1
  case' neg => by_cases h2 : m = 2
  case' neg => by_cases h4 : m = 4
  all_goals try subst m
  all_goals
    go_enter Tryd.func35, Tryd.ntmps35
    go_wp2
    all_goals go_ret
    all_goals refine ⟨ret_bool ?_, rfl⟩
    all_goals (first | (cases wr <;> simp_all [adrOk] <;> omega) | (cases wr <;> simp_all [adrOk]))

end Go.Proofs.YtaeiddoccfaheaaDoor
