/-
  What is ok: l3All, MemOk (both), RspOk (both), InOk (both).
-/
import Derived.Test.YtaeiddoccfaheaaDoorProg
import Derived.Test.YtaeiddoccfaheaaDoorBase
import Derived.Test.YtaeiddoccfaheaaDoorAdr
import Derived.Test.YtaeiddoccfaheaaDoorIdx
namespace Go.Proofs.YtaeiddoccfaheaaDoor
set_option linter.unusedVariables false
set_option linter.unusedSimpArgs false
open Go.RowKit

theorem wordsB_eq (l : List Int) : wordsB l = allIn l 0 65535 := by
  unfold wordsB allIn
  rw [List.all_eq_not_any_not]
  rfl

theorem l3All_any (v : Value) (l : List Int) (fp : List Nat) (lo hi : Int) (w : World) (g : IntS w l v fp) :
    Calls Tryd.prog 34 #[v, .int .i64 lo, .int .i64 hi] w fun e w' => e = .returned (.bool (allIn l lo hi)) ∧ w = w' := by
  obtain ⟨a, n, c, rfl, hn, hcap, hmax, hcm, r⟩ := g.opened
  clear g
  go_enter Tryd.func34, Tryd.ntmps34
  go_wp2_with fail
  go_loop [7] (fun i => ∃ k : Nat, k ≤ n ∧ i = .int .i64 k ∧ ∀ j (h : j < l.length), j < k → inB l[j] lo hi = true) (fun i => n - (intOf i).toNat)
  case atStart => exact ⟨0, Nat.zero_le _, rfl, fun j _ h => absurd h (Nat.not_lt_zero j)⟩
  case round =>
    obtain ⟨k, hk, rfl, hp⟩ := hrel
    have HP := Lib.hid hp
    clear hp
    by_cases hlt : k < n
    · obtain ⟨i1, b1, o1, rfl, hb1, hbm, e1⟩ := r k hlt
      clear r hbm
      go_wp2_with fail
      refine (l1In_any _ _ _ _).mono ?_
      rintro e w2 ⟨rfl, rfl⟩
      cases hq : inB l[k] lo hi
      · have HQ := Lib.hid hq
        clear hq
        go_wp2
        go_ret
        exact ⟨ret_bool (allIn_no i1 HQ.out).symm, rfl⟩
      · have HQ := Lib.hid hq
        clear hq
        go_wp2
        go_round
        case rel => exact ⟨k + 1, by omega, by go_num, fun j h hj => (by
          by_cases e : j = k
          · subst e; exact HQ.out
          · exact HP.out j h (by omega))⟩
        case measure => simp [intOf]; omega
    · clear r
      go_wp2
      go_ret
      exact ⟨ret_bool (allIn_yes (fun j h => HP.out j h (by rw [hn.out] at h; omega))).symm, rfl⟩

/-- a store is ok -/
def memOk (l : List Int) : Bool := decide (l.length = 64) && allIn l 0 65535
theorem memOk_len {l : List Int} (h : l.length ≠ 64) : memOk l = false := by simp [memOk, h]
theorem memOk_at {l : List Int} (h : l.length = 64) : memOk l = allIn l 0 65535 := by simp [memOk, h]

end Go.Proofs.YtaeiddoccfaheaaDoor
