/-
  Texts of this claim laid together: Trc Cr Lift.
-/
import Derived.Test.YtmcjklicepaiaaaProg
import Derived.Test.YtmcjklicepaiaaaPk01
import Derived.Test.YtmcjklicepaiaaaPk02
import Derived.Test.YtmcjklicepaiaaaPk06
import Derived.Test.YtmcjklicepaiaaaPk13
import Derived.OwnWalk
import Derived.WalkSmall
import Derived.Test.YtmcjklicepaiaaaPk05
import Derived.Test.YtmcjklicepaiaaaRows
import Derived.WalkKit
import Derived.ProofKit
import Derived.OpenShut
namespace Go.Proofs.Ytmcjklicepaiaaa
set_option linter.unusedVariables false
set_option linter.unusedSimpArgs false
open Go.RowKit

def EvC (x : Ev) : List Value := [.int .i64 x.kind, .int .i64 x.who, .int .i64 x.n]
theorem EvC_len (x : Ev) : (EvC x).length = 3 := rfl

/-- what happens of one -/
def trcOf (l : List Ev) (who : Int) : List Ev := l.filter fun e => e.who == who
theorem trcOf_yes {l : List Ev} {who : Int} {k : Nat} (h : k < l.length) (e : l[k].who = who) : trcOf (l.take (k + 1)) who = trcOf (l.take k) who ++ [l[k]] := by
  unfold trcOf
  rw [List.take_succ_eq_append_getElem h, List.filter_append]
  simp [e]
theorem trcOf_no {l : List Ev} {who : Int} {k : Nat} (h : k < l.length) (e : ¬ l[k].who = who) : trcOf (l.take (k + 1)) who = trcOf (l.take k) who := by
  unfold trcOf
  rw [List.take_succ_eq_append_getElem h, List.filter_append]
  simp [e]
theorem trcOf_len (l : List Ev) (who : Int) : (trcOf l who).length ≤ l.length := List.length_filter_le _ _

set_option maxRecDepth 100000 in
set_option maxHeartbeats 1600000 in
theorem sTrcOf_any (v : Value) (l : List Ev) (fp : List Nat) (who : Int) (hs : sm_evs l) (w : World) (g : SlR 3 evR w l v fp) :
    Calls Try.prog 30 #[v, .int .i64 who] w fun e w' => ∃ v' fp', e = .returned v' ∧ SlR 3 evR w' (trcOf l who) v' fp' ∧ New fp' w w' ∧ Below w.heap.size w w' := by
  obtain ⟨a, n, cap, rfl, hn, hcap, hmax, hcm, r⟩ := g.opened
  have hns : n ≤ 1048576 := by rw [← hn.out]; exact hs
  clear g hs
  obtain ⟨i0, hi, hz0, hz1, hz2⟩ := info_parts info_evs
  go_enter Try.func30, Try.ntmps30
  go_wp2_with fail
  go_loopw [5, 6] (fun v i wr => ∃ k m : Nat, k ≤ n ∧ i = .int .i64 k ∧ m = (trcOf (l.take k) who).length ∧ wr.ownsRow w.heap.size 47 3 v m ((trcOf (l.take k) who).flatMap EvC) ∧ Below w.heap.size w wr) (fun _ i _ => n - (intOf i).toNat)
  case atStart => exact ⟨0, 0, Nat.zero_le _, rfl, rfl, World.ownsRow_lit w #[] 0 (Nat.le_refl _) (by simp) rfl, below_alloc _ _⟩
  case round =>
    obtain ⟨k, m, hk, rfl, hm, hown, hbel⟩ := hrel
    have hmk : m ≤ 1048576 := by
      rw [hm]
      have := trcOf_len (l.take k) who
      have := List.length_take_le k l
      omega
    have HM := Lib.hid hm
    have HO := Lib.hid hown
    have HB := Lib.hid hbel
    clear hown hm
    by_cases hlt : k < n
    · obtain ⟨i1, b1, o1, f1, cs, rfl, hb1, _, _, ⟨rfl, rfl⟩, e1⟩ := r k hlt
      have c0 := (hbel.cell (p := ⟨b1, o1 + k * 3 + 0, none⟩) hb1).trans (e1 0 (by simp))
      have c1 := (hbel.cell (p := ⟨b1, o1 + k * 3 + 1, none⟩) hb1).trans (e1 1 (by simp))
      have c2 := (hbel.cell (p := ⟨b1, o1 + k * 3 + 2, none⟩) hb1).trans (e1 2 (by simp))
      simp only [Nat.add_zero, List.getElem_cons_zero, List.getElem_cons_succ] at c0 c1 c2
      clear r e1 hbel
      by_cases hq : l[k].who = who
      · have hq' : (l[k].who == who) = true := by simpa using hq
        have HQ := Lib.hid hq
        clear hq
        go_wp2_with (at_builtin; refine wpList_push rfl _ _ 51 47 i0 (.agg #[.int .i64 0, .int .i64 0, .int .i64 0]) 3 24 47 rfl Try.underlying51 hi hz0 hz1 hz2 rfl (by decide) (by decide) rfl rfl HO.out (news := [.int .i64 l[k].kind, .int .i64 l[k].who, .int .i64 l[k].n]) rfl (by simp [Value.oneCell']) (by omega) HB.out (Nat.le_refl _) HB.out.size ?_; intro v' w1 hown' hbel' hsz' _; have HO' := Lib.hid hown'; have HB' := Lib.hid hbel'; clear hown' hbel')
        go_roundw
        case rel => exact ⟨k + 1, m + 1, by omega, by go_num, by rw [trcOf_yes i1 HQ.out, HM.out]; simp, by rw [trcOf_yes i1 HQ.out, List.flatMap_append]; simpa [EvC] using HO'.out, HB'.out⟩
        case measure => simp [intOf]; omega
      · have hq' : (l[k].who == who) = false := by simpa using hq
        have HQ := Lib.hid hq
        clear hq
        go_wp2
        go_roundw
        case rel => exact ⟨k + 1, m, by omega, by go_num, by rw [trcOf_no i1 HQ.out, HM.out], by rw [trcOf_no i1 HQ.out]; exact HO.out, HB.out⟩
        case measure => simp [intOf]; omega
    · obtain rfl : k = n := by omega
      have hall : l.take k = l := List.take_of_length_le (by rw [hn.out]; exact Nat.le_refl _)
      have ho := HO.out
      have hm2 := HM.out
      rw [hall] at ho hm2
      obtain ⟨fp', g1, g2, g3, g4⟩ := SlR.of_owns ho hm2.symm EvC_len (flat_at EvC_len _)
      have HG1 := Lib.hid (show SlR 3 evR wr (trcOf l who) _ fp' from g1)
      have HG2 := Lib.hid g2
      have HG3 := Lib.hid g3
      have HG4 := Lib.hid g4
      clear r hbel ho hm2 hall g1 g2 g3 g4
      go_wp2
      go_ret
      exact ⟨_, fp', rfl, HG1.out, ⟨HG2.out, HG3.out, HG4.out⟩, HB.out⟩

theorem clipEv_any (a : Option Addr) (n c : Nat) (hc : n ≤ c) (hm : c ≤ maxLen) (w : World) :
    Calls Try.prog 78 #[.slice a n c] w fun e w' => e = .returned (.slice a n n) ∧ w = w' := by
  unfold maxLen at hm
  go_enter Try.func78, Try.ntmps78
  go_wp2
  go_ret
  simp

set_option maxRecDepth 100000 in
set_option maxHeartbeats 1600000 in
theorem iTrcOf_any (v : Value) (l : List Ev) (fp : List Nat) (who : Int) (hs : sm_evs l) (w : World) (g : SlR 3 evR w l v fp) :
    Calls Try.prog 28 #[v, .int .i64 who] w fun e w' => ∃ v' fp', e = .returned v' ∧ SlR 3 evR w' (trcOf l who) v' fp' ∧ New fp' w w' ∧ Below w.heap.size w w' := by
  obtain ⟨a, n, cap, rfl, hn, hcap, hmax, hcm, r⟩ := g.opened
  have hns : n ≤ 1048576 := by rw [← hn.out]; exact hs
  clear g hs
  obtain ⟨i0, hi, hz0, hz1, hz2⟩ := info_parts info_evs
  go_enter Try.func28, Try.ntmps28
  go_wp2_with fail
  go_loopw [5, 10] (fun v i wr => ∃ k m : Nat, k ≤ n ∧ i = .int .i64 k ∧ m = (trcOf (l.take k) who).length ∧ wr.ownsRow w.heap.size 47 3 v m ((trcOf (l.take k) who).flatMap EvC) ∧ Below w.heap.size w wr) (fun _ i _ => n - (intOf i).toNat)
  case atStart => exact ⟨0, 0, Nat.zero_le _, rfl, rfl, World.ownsRow_nil _ _ _ _, Below.refl _ _⟩
  case round =>
    obtain ⟨k, m, hk, rfl, hm, hown, hbel⟩ := hrel
    have hmk : m ≤ 1048576 := by
      rw [hm]
      have := trcOf_len (l.take k) who
      have := List.length_take_le k l
      omega
    have HM := Lib.hid hm
    have HO := Lib.hid hown
    have HB := Lib.hid hbel
    clear hown hm
    by_cases hlt : k < n
    · obtain ⟨i1, b1, o1, f1, cs, rfl, hb1, _, _, ⟨rfl, rfl⟩, e1⟩ := r k hlt
      have c0 := (hbel.cell (p := ⟨b1, o1 + k * 3 + 0, none⟩) hb1).trans (e1 0 (by simp))
      have c1 := (hbel.cell (p := ⟨b1, o1 + k * 3 + 1, none⟩) hb1).trans (e1 1 (by simp))
      have c2 := (hbel.cell (p := ⟨b1, o1 + k * 3 + 2, none⟩) hb1).trans (e1 2 (by simp))
      simp only [Nat.add_zero, List.getElem_cons_zero, List.getElem_cons_succ] at c0 c1 c2
      have HBa := Lib.hid (HB.out.alloc HB.out.size (.cells #[.int .i64 l[k].kind, .int .i64 l[k].who, .int .i64 l[k].n] 47))
      have HOa := Lib.hid (HO.out.alloc (.cells #[.int .i64 l[k].kind, .int .i64 l[k].who, .int .i64 l[k].n] 47))
      clear r e1 hbel
      by_cases hq : l[k].who = who
      · have hq' : (l[k].who == who) = true := by simpa using hq
        have HQ := Lib.hid hq
        clear hq
        go_wp2_with (at_builtin; refine wpList_push rfl _ _ 51 47 i0 (.agg #[.int .i64 0, .int .i64 0, .int .i64 0]) 3 24 47 rfl Try.underlying51 hi hz0 hz1 hz2 rfl (by decide) (by decide) rfl (by simp [Act.eval]) HOa.out (news := [.int .i64 l[k].kind, .int .i64 l[k].who, .int .i64 l[k].n]) rfl (by simp [Value.oneCell']) (by omega) HBa.out (Nat.le_refl _) HBa.out.size ?_; intro v' w1 hown' hbel' hsz' _; have HO' := Lib.hid hown'; have HB' := Lib.hid hbel'; clear hown' hbel')
        go_roundw
        case rel => exact ⟨k + 1, m + 1, by omega, by go_num, by rw [trcOf_yes i1 HQ.out, HM.out]; simp, by rw [trcOf_yes i1 HQ.out, List.flatMap_append]; simpa [EvC] using HO'.out, HB'.out⟩
        case measure => simp [intOf]; omega
      · have hq' : (l[k].who == who) = false := by simpa using hq
        have HQ := Lib.hid hq
        clear hq
        go_wp2
        go_roundw
        case rel => exact ⟨k + 1, m, by omega, by go_num, by rw [trcOf_no i1 HQ.out, HM.out], by rw [trcOf_no i1 HQ.out]; exact HOa.out, HBa.out⟩
        case measure => simp [intOf]; omega
    · obtain rfl : k = n := by omega
      have hall : l.take k = l := List.take_of_length_le (by rw [hn.out]; exact Nat.le_refl _)
      have ho := HO.out
      have hm2 := HM.out
      rw [hall] at ho hm2
      obtain ⟨fp', g1, g2, g3, g4⟩ := SlR.of_owns ho hm2.symm EvC_len (flat_at EvC_len _)
      obtain ⟨a2, n2, c2, rfl, hn2, hcap2, hmax2, hcm2, _⟩ := g1.opened
      have HG1 := Lib.hid (show SlR 3 evR wr (trcOf l who) _ fp' from SlR.clip g1)
      have HG2 := Lib.hid g2
      have HG3 := Lib.hid g3
      have HG4 := Lib.hid g4
      clear r hbel ho hm2 hall g1 g2 g3 g4 hn2
      go_wp2_with (go_at_call 78; refine (clipEv_any _ _ _ hcap2 hcm2 _).mono ?_; rintro e w' ⟨rfl, rfl⟩)
      go_ret
      exact ⟨_, fp', rfl, HG1.out, ⟨HG2.out, HG3.out, HG4.out⟩, HB.out⟩

/-- the element at place i, marked from k on -/
def el_evs (k : Int) (i : Nat) : Ev := ⟨k + 3 * (i : Int), k + 3 * (i : Int) + 1, k + 3 * (i : Int) + 1 + 1⟩
def mk_evs (k : Int) (l : List Ev) : List Ev := (List.range l.length).map (el_evs k)
def cnt_evs (l : List Ev) : Int := 3 * (l.length : Int)
theorem cnt_evs_in {l : List Ev} (h : sm_evs l) : 0 ≤ cnt_evs l ∧ cnt_evs l ≤ 3145728 := by unfold cnt_evs; unfold sm_evs at h; omega
def mix_evs (k : Int) (l : List Ev) (j : Nat) : List Ev := (List.range j).map (el_evs k) ++ l.drop j
theorem mix_evs_zero (k : Int) (l : List Ev) : mix_evs k l 0 = l := by simp [mix_evs]
theorem mix_evs_all (k : Int) (l : List Ev) (j : Nat) (h : l.length = j) : mix_evs k l j = mk_evs k l := by simp [mix_evs, mk_evs, h]
theorem mix_evs_set (k : Int) (l : List Ev) (j : Nat) (h : j < l.length) : (mix_evs k l j).set j (el_evs k j) = mix_evs k l (j + 1) := by
  unfold mix_evs
  rw [List.set_append_right _ _ (by simp), List.drop_eq_getElem_cons h, List.length_map, List.length_range, Nat.sub_self, List.set_cons_zero, List.range_succ, List.map_append, List.append_assoc]
  rfl

end Go.Proofs.Ytmcjklicepaiaaa

namespace Go.Proofs.Ytmcjklicepaiaaa
set_option linter.unusedVariables false
set_option linter.unusedSimpArgs false
open Go.RowKit

theorem crOk_any (w : World) : Calls Try.prog 16 #[] w fun e w' => e = .returned (.bool true) ∧ w = w' := by
  go_enter Try.func16, Try.ntmps16
  go_wp2_with (go_at_call 56; refine (iAdrOk_any _ _ _ _).mono ?_; rintro e w' ⟨rfl, rfl⟩)
  go_ret
  exact ⟨ret_bool (by decide), rfl⟩

end Go.Proofs.Ytmcjklicepaiaaa

namespace Go.Proofs.Ytmcjklicepaiaaa
set_option linter.unusedVariables false
set_option linter.unusedSimpArgs false
open Go.ChangeShapes Go.WideShapes Go.ChangeAt Go.RowKit
theorem own : ownKnob Try.prog.godebug = none := by kernel_rfl
theorem laidOut : laidOutB Try.prog = true := by kernel_rfl
end Go.Proofs.Ytmcjklicepaiaaa
