/-
 Texts of this claim laid together: Trc Cr Lift CrInts.
-/
import Derived.Test.YtmcjklicepaiaaaProg
import Derived.Test.YtmcjklicepaiaaaPk01
import Derived.Test.YtmcjklicepaiaaaPk02
import Derived.Test.YtmcjklicepaiaaaPk05
import Derived.Test.YtmcjklicepaiaaaPk11
import Derived.OwnWalk
import Derived.WalkSmall
import Derived.Test.YtmcjklicepaiaaaPk04
import Derived.Test.YtmcjklicepaiaaaRows
import Derived.WalkKit
import Derived.ProofKit
import Derived.OpenShut
import Derived.Deep.QuietTactic
import Derived.BigQuiet
set_option linter.unusedVariables false
set_option linter.unusedSimpArgs false
namespace Go.Proofs.Ytmcjklicepaiaaa
open Go.RowKit
end Go.Proofs.Ytmcjklicepaiaaa
namespace Go.Proofs.Ytmcjklicepaiaaa
open Go.RowKit
theorem crOk_any (w : World) : Calls Try.prog 16 #[] w fun e w' => e = .returned (.bool true) ∧ w = w' := by
 go_enter Try.func16, Try.ntmps16
 go_wp2_with (go_at_call 56; refine (iAdrOk_any _ _ _ _).mono ?_; rintro e w' ⟨rfl, rfl⟩)
 go_ret
 exact ⟨ret_bool (by decide), rfl⟩
end Go.Proofs.Ytmcjklicepaiaaa
namespace Go.Proofs.Ytmcjklicepaiaaa
open Go.ChangeShapes Go.WideShapes Go.ChangeAt Go.RowKit
theorem own : ownKnob Try.prog.godebug = none := by kernel_rfl
theorem laidOut : laidOutB Try.prog = true := by kernel_rfl
end Go.Proofs.Ytmcjklicepaiaaa
namespace Go.Proofs.Ytmcjklicepaiaaa
open Go.RowKit
theorem crInts_any (v1 v2 : Value) (l1 l2 : List Int) (fp1 fp2 : List Nat) (w : World) (g1 : IntS w l1 v1 fp1) (g2 : IntS w l2 v2 fp2) :
 Calls Try.prog 94 #[v1, v2] w fun e w' => e = .returned (.bool (decide (l1 = l2))) ∧ ∃ n, w' = w.drewN n := by
 obtain ⟨a1, n1, c1, rfl, hn1, k1, m1, _, r1⟩ := g1.opened
 obtain ⟨a2, n2, c2, rfl, hn2, k2, m2, _, r2⟩ := g2.opened
 clear g1 g2
 by_cases hL : n2 = n1
 · obtain rfl := hL
   go_enter Try.func94, Try.ntmps94
   go_wp2
   go_loopw [5] (fun i wr => ∃ k : Nat, k <= n2 ∧ i = .int .i64 k ∧ l1.take k = l2.take k ∧ ∃ m, wr = w.drewN m) (fun i _ => n2 - (intOf i).toNat)
   case atStart => exact ⟨0, Nat.zero_le _, rfl, rfl, 0, rfl⟩
   case round =>
    obtain ⟨k, hk, rfl, ht, m, rfl⟩ := hrel
    have HT := Lib.hid ht
    clear ht
    by_cases hlt : k < n2
    · obtain ⟨i1, b1, o1, rfl, hb1, _, e1⟩ := r1 k hlt
      obtain ⟨i2, b2, o2, rfl, hb2, _, e2⟩ := r2 k hlt
      clear r1 r2
      by_cases hq : l1[k] = l2[k]
      · have hq' : (l1[k] != l2[k]) = false := by simp [hq]
        have HQ := Lib.hid hq
        clear hq
        go_wp2_with fail
        go_quiet (fail)
        go_wp2
        go_roundw
        case rel => exact ⟨k + 1, by omega, by go_num, take_succ_eq HT.out i1 i2 HQ.out, by (try simp only [World.drewN_drewN]); exact ⟨_, rfl⟩⟩
        case measure => simp [intOf]; omega
      · have hq' : (l1[k] != l2[k]) = true := by simp [hq]
        have HQ := Lib.hid hq
        clear hq
        go_wp2_with fail
        go_quiet (fail)
        go_wp2
        go_ret
        exact ⟨ret_bool (by simp; intro e; exact HQ.out (by simp [e])), by (try simp only [World.drewN_drewN]); exact ⟨_, rfl⟩⟩
    · clear r1 r2
      go_wp2
      go_ret
      exact ⟨ret_bool (by simp [take_all_eq HT.out hn1.out hn2.out (by omega)]), m, rfl⟩
 · clear r1 r2
   have hne : l1 ≠ l2 := fun e => hL (by rw [<- hn1.out, <- hn2.out, e])
   have hq : ((n1 : Int) != n2) = true := by simp; omega
   go_enter Try.func94, Try.ntmps94
   go_wp2
   go_ret
   exact ⟨ret_bool (by simp [hne]), 0, rfl⟩
end Go.Proofs.Ytmcjklicepaiaaa
