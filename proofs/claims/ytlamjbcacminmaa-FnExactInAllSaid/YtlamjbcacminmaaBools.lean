/-
  What the functions on lists of bools do: szBoolS, eqBoolS, toBoolS.
-/
import Derived.Test.YtlamjbcacminmaaProg
import Derived.Test.YtlamjbcacminmaaBase
import Derived.Deep.QuietTactic
import Derived.BigQuiet
import Derived.OwnWalk
namespace Go.Proofs.Ytlamjbcacminmaa
set_option linter.unusedVariables false
set_option linter.unusedSimpArgs false
open Go.RowKit

theorem eqBoolS_any (v1 v2 : Value) (l1 l2 : List Bool) (fp1 fp2 : List Nat) (w : World) (g1 : BoolS w l1 v1 fp1) (g2 : BoolS w l2 v2 fp2) :
    Calls Try.prog 75 #[v1, v2] w fun e w' => e = .returned (.bool (decide (l1 = l2))) ∧ ∃ n, w' = w.drewN n := by
  obtain ⟨a1, n1, c1, rfl, hn1, k1, m1, _, r1⟩ := g1.opened
  obtain ⟨a2, n2, c2, rfl, hn2, k2, m2, _, r2⟩ := g2.opened
  clear g1 g2
  by_cases hL : n2 = n1
  · obtain rfl := hL
    go_enter Try.func75, Try.ntmps75
    go_wp2
    go_loopw [5] (fun i wr => ∃ k : Nat, k ≤ n2 ∧ i = .int .i64 k ∧ l1.take k = l2.take k ∧ ∃ m, wr = w.drewN m) (fun i _ => n2 - (intOf i).toNat)
    case atStart => exact ⟨0, Nat.zero_le _, rfl, rfl, 0, rfl⟩
    case round =>
      obtain ⟨k, hk, rfl, ht, m, rfl⟩ := hrel
      have HT := Lib.hid ht
      clear ht
      by_cases hlt : k < n2
      · obtain ⟨i1, b1, o1, rfl, hb1, _, e1⟩ := r1 k hlt
        obtain ⟨i2, b2, o2, rfl, hb2, _, e2⟩ := r2 k hlt
        clear r1 r2
        obtain ⟨x, hx⟩ : ∃ x, l1[k] = x := ⟨_, rfl⟩
        obtain ⟨y, hy⟩ : ∃ y, l2[k] = y := ⟨_, rfl⟩
        rw [hx] at e1
        rw [hy] at e2
        have HX := Lib.hid hx
        have HY := Lib.hid hy
        clear hx hy
        by_cases hxy : x = y
        · obtain rfl := hxy
          have HQ := Lib.hid (HX.out.trans HY.out.symm)
          cases x
          all_goals
            go_wp2_with fail
            go_quiet (fail)
            go_wp2
            go_roundw
            case rel => exact ⟨k + 1, by omega, by go_num, take_succ_eq HT.out i1 i2 HQ.out, by (try simp only [World.drewN_drewN]); exact ⟨_, rfl⟩⟩
            case measure => simp [intOf]; omega
        · have HQ : Hid (¬ l1[k] = l2[k]) := Lib.hid (by rw [HX.out, HY.out]; exact hxy)
          have hyx : y = !x := by cases x <;> cases y <;> simp_all
          clear hxy
          obtain rfl := hyx
          cases x
          all_goals
            simp only [Bool.not_false, Bool.not_true] at e2
            go_wp2_with fail
            go_quiet (fail)
            go_wp2
            go_ret
            exact ⟨ret_bool (by simp; intro e; exact HQ.out (by simp [e])), by (try simp only [World.drewN_drewN]); exact ⟨_, rfl⟩⟩
      · clear r1 r2
        go_wp2
        go_ret
        exact ⟨ret_bool (by simp [take_all_eq HT.out hn1.out hn2.out (by omega)]), m, rfl⟩
  · clear r1 r2
    have hne : l1 ≠ l2 := fun e => hL (by rw [← hn1.out, ← hn2.out, e])
    have hq : ((n1 : Int) != n2) = true := by simp; omega
    go_enter Try.func75, Try.ntmps75
    go_wp2
    go_ret
    exact ⟨ret_bool (by simp [hne]), 0, rfl⟩

theorem infoBool : (Try.prog.info? 4).map (fun i => (i.zero, i.size, i.bytes)) = some (some (.bool false), 1, 1) := by kernel_rfl

/-- the first k taken over, the others still nought -/
def bpt (l : List Bool) (k : Nat) : List Value := (l.take k).map Value.bool ++ List.replicate (l.length - k) (.bool false)
theorem bpt_len (l : List Bool) (k : Nat) (h : k ≤ l.length) : (bpt l k).length = l.length := by simp [bpt]; omega
theorem bpt_zero (l : List Bool) : bpt l 0 = List.replicate l.length (.bool false) := by simp [bpt]
theorem bpt_all (l : List Bool) (k : Nat) (h : l.length ≤ k) : bpt l k = l.map Value.bool := by simp [bpt, List.take_of_length_le h]; omega
theorem bpt_set (l : List Bool) (k : Nat) (h : k < l.length) : (bpt l k).set k (.bool l[k]) = bpt l (k + 1) := by
  have e : l.length - k = (l.length - (k + 1)) + 1 := by omega
  unfold bpt
  rw [List.set_append_right _ _ (by simp; omega), List.take_succ_eq_append_getElem h, e, List.replicate_succ]
  simp only [List.length_map, List.length_take, Nat.min_eq_left (Nat.le_of_lt h), Nat.sub_self, List.set_cons_zero, List.map_append, List.map_cons, List.map_nil, List.append_assoc, List.singleton_append]

end Go.Proofs.Ytlamjbcacminmaa
