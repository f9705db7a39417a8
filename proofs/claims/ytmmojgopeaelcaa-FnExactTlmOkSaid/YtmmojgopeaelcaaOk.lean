/-
  What is ok: l3All, MemOk (both), RspOk (both), InOk (both).
-/
import Derived.Test.YtmmojgopeaelcaaProg
import Derived.Test.YtmmojgopeaelcaaBase
import Derived.Test.YtmmojgopeaelcaaAdr
import Derived.Test.YtmmojgopeaelcaaIdx
namespace Go.Proofs.Ytmmojgopeaelcaa
set_option linter.unusedVariables false
set_option linter.unusedSimpArgs false
open Go.RowKit

theorem wordsB_eq (l : List Int) : wordsB l = allIn l 0 65535 := by
  unfold wordsB allIn
  rw [List.all_eq_not_any_not]
  rfl

theorem l3All_any (v : Value) (l : List Int) (fp : List Nat) (lo hi : Int) (w : World) (g : IntS w l v fp) :
    Calls Try.prog 112 #[v, .int .i64 lo, .int .i64 hi] w fun e w' => e = .returned (.bool (allIn l lo hi)) ∧ w = w' := by
  obtain ⟨a, n, c, rfl, hn, hcap, hmax, hcm, r⟩ := g.opened
  clear g
  go_enter Try.func112, Try.ntmps112
  go_wp2_with fail
  go_loop [7] (fun i => ∃ k : Nat, k ≤ n ∧ i = .int .i64 k ∧ ∀ j (h : j < l.length), j < k → inB l[j] lo hi = true) (fun i => n - (intOf i).toNat)
  case atStart => exact ⟨0, Nat.zero_le _, rfl, fun j _ h => absurd h (Nat.not_lt_zero j)⟩
  case round =>
    obtain ⟨k, hk, rfl, hp⟩ := hrel
    have HP := Lib.hid hp
    clear hp
    by_cases hlt : k < n
    · obtain ⟨i1, b1, o1, rfl, hb1, hbm, e1⟩ := r k hlt
      clear r hbm
      go_wp2_with fail
      refine (l1In_any _ _ _ _).mono ?_
      rintro e w2 ⟨rfl, rfl⟩
      cases hq : inB l[k] lo hi
      · have HQ := Lib.hid hq
        clear hq
        go_wp2
        go_ret
        exact ⟨ret_bool (allIn_no i1 HQ.out).symm, rfl⟩
      · have HQ := Lib.hid hq
        clear hq
        go_wp2
        go_round
        case rel => exact ⟨k + 1, by omega, by go_num, fun j h hj => (by
          by_cases e : j = k
          · subst e; exact HQ.out
          · exact HP.out j h (by omega))⟩
        case measure => simp [intOf]; omega
    · clear r
      go_wp2
      go_ret
      exact ⟨ret_bool (allIn_yes (fun j h => HP.out j h (by rw [hn.out] at h; omega))).symm, rfl⟩

/-- a store is ok -/
def memOk (l : List Int) : Bool := decide (l.length = 64) && allIn l 0 65535
theorem memOk_len {l : List Int} (h : l.length ≠ 64) : memOk l = false := by simp [memOk, h]
theorem memOk_at {l : List Int} (h : l.length = 64) : memOk l = allIn l 0 65535 := by simp [memOk, h]

theorem sMemOk_any (v : Value) (l : List Int) (fp : List Nat) (w : World) (g : IntS w l v fp) :
    Calls Try.prog 47 #[.agg #[v]] w fun e w' => e = .returned (.bool (memOk l)) ∧ Below w.heap.size w w' := by
  have hb := below_alloc w (.cells #[v] 65)
  obtain ⟨a, n, c, rfl, hn, hcap, hmax, hcm, r⟩ := IntS.opened (g.below intR_fits hb)
  have HB := Lib.hid hb
  clear g hb
  by_cases h64 : n = 64
  · subst h64
    go_enter Try.func47, Try.ntmps47
    go_wp2_with fail
    go_loop [3] (fun i => ∃ k : Nat, k ≤ 64 ∧ i = .int .i64 k ∧ ∀ j (h : j < l.length), j < k → inB l[j] 0 65535 = true) (fun i => 64 - (intOf i).toNat)
    case atStart => exact ⟨0, Nat.zero_le _, rfl, fun j _ h => absurd h (Nat.not_lt_zero j)⟩
    case round =>
      obtain ⟨k, hk, rfl, hp⟩ := hrel
      have HP := Lib.hid hp
      clear hp
      by_cases hlt : k < 64
      · obtain ⟨i1, b1, o1, rfl, hb1, hbm, e1⟩ := r k hlt
        clear r hbm
        go_wp2_with fail
        refine (l1In_any _ _ _ _).mono ?_
        rintro e w2 ⟨rfl, rfl⟩
        cases hq : inB l[k] 0 65535
        · have HQ := Lib.hid hq
          clear hq
          go_wp2
          go_ret
          exact ⟨ret_bool (by rw [memOk_at hn.out, allIn_no i1 HQ.out]), HB.out⟩
        · have HQ := Lib.hid hq
          clear hq
          go_wp2
          go_round
          case rel => exact ⟨k + 1, by omega, by go_num, fun j h hj => (by
            by_cases e : j = k
            · subst e; exact HQ.out
            · exact HP.out j h (by omega))⟩
          case measure => simp [intOf]; omega
      · clear r
        go_wp2
        go_ret
        exact ⟨ret_bool (by rw [memOk_at hn.out, allIn_yes (fun j h => HP.out j h (by rw [hn.out] at h; omega))]), HB.out⟩
  · clear r
    have hne : l.length ≠ 64 := by rw [hn.out]; exact h64
    have hq : ((n : Int) != 64) = true := by simp; omega
    go_enter Try.func47, Try.ntmps47
    go_wp2
    go_ret
    exact ⟨ret_bool (memOk_len hne).symm, HB.out⟩

theorem iMemOk_any (v : Value) (l : List Int) (fp : List Nat) (w : World) (g : IntS w l v fp) :
    Calls Try.prog 45 #[.agg #[v]] w fun e w' => e = .returned (.bool (memOk l)) ∧ Below w.heap.size w w' := by
  have hb := below_alloc w (.cells #[v] 65)
  have G := Lib.hid (g.below intR_fits hb)
  obtain ⟨a, n, c, rfl, hn, hcap, hmax, hcm, _⟩ := g.opened
  have HB := Lib.hid hb
  clear g hb
  by_cases h64 : n = 64
  · subst h64
    go_enter Try.func45, Try.ntmps45
    go_wp2_with fail
    refine (areWords_any _ l fp _ G.out).mono ?_
    rintro e w2 ⟨rfl, b2⟩
    have HB2 := Lib.hid (HB.out.trans (b2.mono HB.out.size))
    clear b2
    cases hq : wordsB l
    all_goals
      go_wp2
      go_ret
      exact ⟨ret_bool (by rw [memOk_at hn.out, ← wordsB_eq, hq]), HB2.out⟩
  · have hne : l.length ≠ 64 := by rw [hn.out]; exact h64
    have hq : ((n : Int) == 64) = false := by simp; omega
    go_enter Try.func45, Try.ntmps45
    go_wp2
    go_ret
    exact ⟨ret_bool (memOk_len hne).symm, HB.out⟩

end Go.Proofs.Ytmmojgopeaelcaa
