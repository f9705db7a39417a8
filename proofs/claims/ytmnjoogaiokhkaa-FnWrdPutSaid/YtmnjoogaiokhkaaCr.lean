/-
  crOk, which the statements on codes call.
-/
import Derived.Test.YtmnjoogaiokhkaaProg
import Derived.Test.YtmnjoogaiokhkaaAdr
namespace Go.Proofs.Ytmnjoogaiokhkaa
set_option linter.unusedVariables false
open Go.RowKit

theorem crOk_any (w : World) : Calls Try.prog 25 #[] w fun e w' => e = .returned (.bool true) ∧ w = w' := by
  go_enter Try.func25, Try.ntmps25
  go_wp2_with (go_at_call 16; refine (iAdrOk_any _ _ _ _).mono ?_; rintro e w' ⟨rfl, rfl⟩)
  go_ret
  exact ⟨ret_bool (by decide), rfl⟩

end Go.Proofs.Ytmnjoogaiokhkaa
