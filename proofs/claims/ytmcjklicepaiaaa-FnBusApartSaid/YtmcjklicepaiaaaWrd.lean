/-
  What the functions on words return: isWord, put, WrdPut (both).
-/
import Derived.Test.YtmcjklicepaiaaaProg
import Derived.Test.YtmcjklicepaiaaaBase
import Derived.Test.YtmcjklicepaiaaaAdr
import Derived.Test.YtmcjklicepaiaaaBits
namespace Go.Proofs.Ytmcjklicepaiaaa
set_option linter.unusedVariables false
set_option linter.unusedSimpArgs false
open Go.RowKit

theorem isWord_any (a : Int) (w : World) :
    Calls Try.prog 136 #[.int .i64 a] w fun e w' => e = .returned (.bool (inB a 0 65535)) ∧ w = w' := by
  go_enter Try.func136, Try.ntmps136
  go_wp2_with (go_at_call 52; refine (in_any _ _ _ _).mono ?_; rintro e w' ⟨rfl, rfl⟩)
  go_ret
  exact ⟨rfl, rfl⟩

theorem put_any (a b n : Int) (ha : 0 ≤ a ∧ a ≤ 65535) (hb : 0 ≤ b ∧ b ≤ 65535) (hn : 0 ≤ n ∧ n ≤ 3) (w : World) :
    Calls Try.prog 131 #[.int .i64 a, .int .i64 b, .int .i64 n] w fun e w' => e = .returned (.int .i64 (putW a b n)) ∧ w = w' := by
  obtain ⟨a0, a1⟩ := ha
  obtain ⟨b0, b1⟩ := hb
  have hn' : n = 0 ∨ n = 1 ∨ n = 2 ∨ n = 3 := by omega
  clear hn
  have c01 : bits .and .i64 0 1 = 0 := by decide
  have c11 : bits .and .i64 1 1 = 1 := by decide
  have c21 : bits .and .i64 2 1 = 0 := by decide
  have c31 : bits .and .i64 3 1 = 1 := by decide
  have d0 : bits .or .i64 0 0 = 0 := by decide
  have d1 : bits .or .i64 255 0 = 255 := by decide
  have d2 : bits .or .i64 0 65280 = 65280 := by decide
  have d3 : bits .or .i64 255 65280 = 65535 := by decide
  have e0 := iand_none b b0 b1
  have e1 := iand_lo b b0 b1
  have e2 := iand_hi b b0 b1
  have e3 := iand_both b b0 b1
  have f0 := inot_none a a0 a1
  have f1 := inot_lo a a0 a1
  have f2 := inot_hi a a0 a1
  have f3 := inot_both a a0 a1
  have g0 := ior_zero a a0 a1
  have g1 := ior_parts a b a0 a1 b0 b1
  have g2 := ior_parts' a b a0 a1 b0 b1
  have g3 := zero_ior b b0 b1
  rcases hn' with rfl | rfl | rfl | rfl
  all_goals
    go_enter Try.func131, Try.ntmps131
    go_wp2
    go_ret
    refine ⟨ret_int ?_, rfl⟩
    simp [putW]
    try omega

theorem putW_word (a b n : Int) (ha : 0 ≤ a ∧ a ≤ 65535) (hb : 0 ≤ b ∧ b ≤ 65535) : 0 ≤ putW a b n ∧ putW a b n ≤ 65535 := by
  unfold putW
  split <;> split <;> omega

/-- what WrdPut returns -/
def wrdPut (a b n : Int) : Int := if inB a 0 65535 = true ∧ inB b 0 65535 = true ∧ inB n 0 3 = true then putW a b n else -1

theorem sWrdPut_any (a b n : Int) (w : World) :
    Calls Try.prog 157 #[.int .i64 a, .int .i64 b, .int .i64 n] w fun e w' => e = .returned (.int .i64 (wrdPut a b n)) ∧ w = w' := by
  cases h1 : inB a 0 65535
  case' true => cases h2 : inB b 0 65535
  case' true.true => cases h3 : inB n 0 3
  case true.true.true =>
    obtain ⟨a0, a1⟩ := inB_true.1 h1
    obtain ⟨b0, b1⟩ := inB_true.1 h2
    obtain ⟨n0, n1⟩ := inB_true.1 h3
    have hn' : n = 0 ∨ n = 1 ∨ n = 2 ∨ n = 3 := by omega
    rcases hn' with rfl | rfl | rfl | rfl
    all_goals
      go_enter Try.func157, Try.ntmps157
      go_wp2_with (go_at_call 70; refine (l1In_any _ _ _ _).mono ?_; rintro e w' ⟨rfl, rfl⟩)
      go_ret
      exact ⟨ret_int (by simp [wrdPut, h1, h2, h3, putW]), rfl⟩
  all_goals
    go_enter Try.func157, Try.ntmps157
    go_wp2_with (go_at_call 70; refine (l1In_any _ _ _ _).mono ?_; rintro e w' ⟨rfl, rfl⟩)
    go_ret
    exact ⟨ret_int (by simp [wrdPut, *]), rfl⟩

theorem putW_facts (a b n : Int) (ha : 0 ≤ a ∧ a ≤ 65535) (hb : 0 ≤ b ∧ b ≤ 65535) (hn : n = 0 ∨ n = 1 ∨ n = 2 ∨ n = 3) :
    putW a b n % 256 = (if n = 1 ∨ n = 3 then b % 256 else a % 256) ∧ putW a b n / 256 = (if n = 2 ∨ n = 3 then b / 256 else a / 256) ∧ putW (putW a b n) b n = putW a b n ∧ putW (putW a b n) a n = putW a a n := by
  rcases hn with rfl | rfl | rfl | rfl <;> simp [putW] <;> omega

theorem wrdPut_ok (a b n : Int) (ha : 0 ≤ a ∧ a ≤ 65535) (hb : 0 ≤ b ∧ b ≤ 65535) (hn : 0 ≤ n ∧ n ≤ 3) : wrdPut a b n = putW a b n := by
  unfold wrdPut
  rw [if_pos ⟨inB_true.2 ha, inB_true.2 hb, inB_true.2 hn⟩]
theorem wrdPut_no (a b n : Int) (h : ¬ ((0 ≤ a ∧ a ≤ 65535) ∧ (0 ≤ b ∧ b ≤ 65535) ∧ (0 ≤ n ∧ n ≤ 3))) : wrdPut a b n = -1 := by
  unfold wrdPut
  rw [if_neg]
  rintro ⟨h1, h2, h3⟩
  exact h ⟨inB_true.1 h1, inB_true.1 h2, inB_true.1 h3⟩

end Go.Proofs.Ytmcjklicepaiaaa
