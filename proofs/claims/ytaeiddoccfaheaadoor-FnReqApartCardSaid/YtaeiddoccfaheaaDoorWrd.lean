/-
  What the functions on words return: isWord, put, WrdPut (both).
-/
import Derived.Test.YtaeiddoccfaheaaDoorProg
import Derived.Test.YtaeiddoccfaheaaDoorBase
import Derived.Test.YtaeiddoccfaheaaDoorAdr
import Derived.Test.YtaeiddoccfaheaaDoorBits
namespace Go.Proofs.YtaeiddoccfaheaaDoor
set_option linter.unusedVariables false
set_option linter.unusedSimpArgs false
open Go.RowKit

theorem isWord_any (a : Int) (w : World) :
    Calls Tryd.prog 51 #[.int .i64 a] w fun e w' => e = .returned (.bool (inB a 0 65535)) ∧ w = w' := by
  go_enter Tryd.func51, Tryd.ntmps51
  go_wp2_with (go_at_call 39; refine (in_any _ _ _ _).mono ?_; rintro e w' ⟨rfl, rfl⟩)
  go_ret
  exact ⟨rfl, rfl⟩

theorem putW_word (a b n : Int) (ha : 0 ≤ a ∧ a ≤ 65535) (hb : 0 ≤ b ∧ b ≤ 65535) : 0 ≤ putW a b n ∧ putW a b n ≤ 65535 := by
  unfold putW
  split <;> split <;> omega

/-- what WrdPut returns -/
def wrdPut (a b n : Int) : Int := if inB a 0 65535 = true ∧ inB b 0 65535 = true ∧ inB n 0 3 = true then putW a b n else -1

theorem putW_facts (a b n : Int) (ha : 0 ≤ a ∧ a ≤ 65535) (hb : 0 ≤ b ∧ b ≤ 65535) (hn : n = 0 ∨ n = 1 ∨ n = 2 ∨ n = 3) :
    putW a b n % 256 = (if n = 1 ∨ n = 3 then b % 256 else a % 256) ∧ putW a b n / 256 = (if n = 2 ∨ n = 3 then b / 256 else a / 256) ∧ putW (putW a b n) b n = putW a b n ∧ putW (putW a b n) a n = putW a a n := by
  rcases hn with rfl | rfl | rfl | rfl <;> simp [putW] <;> omega

theorem wrdPut_ok (a b n : Int) (ha : 0 ≤ a ∧ a ≤ 65535) (hb : 0 ≤ b ∧ b ≤ 65535) (hn : 0 ≤ n ∧ n ≤ 3) : wrdPut a b n = putW a b n := by
  unfold wrdPut
  rw [if_pos ⟨inB_true.2 ha, inB_true.2 hb, inB_true.2 hn⟩]
theorem wrdPut_no (a b n : Int) (h : ¬ ((0 ≤ a ∧ a ≤ 65535) ∧ (0 ≤ b ∧ b ≤ 65535) ∧ (0 ≤ n ∧ n ≤ 3))) : wrdPut a b n = -1 := by
  unfold wrdPut
  rw [if_neg]
  rintro ⟨h1, h2, h3⟩
  exact h ⟨inB_true.1 h1, inB_true.1 h2, inB_true.1 h3⟩

end Go.Proofs.YtaeiddoccfaheaaDoor
