/-
  What happens of one: TrcOf (both); markTlmEventS, heldTlmEventS.
-/
import Derived.Test.YtlamjbcacminmaaProg
import Derived.Test.YtlamjbcacminmaaBase
import Derived.Test.YtlamjbcacminmaaRow
import Derived.Test.YtlamjbcacminmaaEv
import Derived.Test.YtlamjbcacminmaaPush
import Derived.OwnWalk
import Derived.WalkSmall
namespace Go.Proofs.Ytlamjbcacminmaa
set_option linter.unusedVariables false
open Go.RowKit

def EvC (x : Ev) : List Value := [.int .i64 x.kind, .int .i64 x.who, .int .i64 x.n]
theorem EvC_len (x : Ev) : (EvC x).length = 3 := rfl

/-- what happens of one -/
def trcOf (l : List Ev) (who : Int) : List Ev := l.filter fun e => e.who == who
theorem trcOf_yes {l : List Ev} {who : Int} {k : Nat} (h : k < l.length) (e : l[k].who = who) : trcOf (l.take (k + 1)) who = trcOf (l.take k) who ++ [l[k]] := by
  unfold trcOf
  rw [List.take_succ_eq_append_getElem h, List.filter_append]
  simp [e]
theorem trcOf_no {l : List Ev} {who : Int} {k : Nat} (h : k < l.length) (e : ¬ l[k].who = who) : trcOf (l.take (k + 1)) who = trcOf (l.take k) who := by
  unfold trcOf
  rw [List.take_succ_eq_append_getElem h, List.filter_append]
  simp [e]
theorem trcOf_len (l : List Ev) (who : Int) : (trcOf l who).length ≤ l.length := List.length_filter_le _ _

set_option maxRecDepth 100000 in
set_option maxHeartbeats 1600000 in
theorem sTrcOf_any (v : Value) (l : List Ev) (fp : List Nat) (who : Int) (hs : sm_evs l) (w : World) (g : SlR 3 evR w l v fp) :
    Calls Try.prog 29 #[v, .int .i64 who] w fun e w' => ∃ v' fp', e = .returned v' ∧ SlR 3 evR w' (trcOf l who) v' fp' ∧ New fp' w w' ∧ Below w.heap.size w w' := by
  obtain ⟨a, n, cap, rfl, hn, hcap, hmax, hcm, r⟩ := g.opened
  have hns : n ≤ 1048576 := by rw [← hn.out]; exact hs
  clear g hs
  obtain ⟨i0, hi, hz0, hz1, hz2⟩ := info_parts info_evs
  go_enter Try.func29, Try.ntmps29
  go_wp2_with fail
  go_loopw [5, 6] (fun v i wr => ∃ k m : Nat, k ≤ n ∧ i = .int .i64 k ∧ m = (trcOf (l.take k) who).length ∧ wr.ownsRow w.heap.size 86 3 v m ((trcOf (l.take k) who).flatMap EvC) ∧ Below w.heap.size w wr) (fun _ i _ => n - (intOf i).toNat)
  case atStart => exact ⟨0, 0, Nat.zero_le _, rfl, rfl, World.ownsRow_lit w #[] 0 (Nat.le_refl _) (by simp) rfl, below_alloc _ _⟩
  case round =>
    obtain ⟨k, m, hk, rfl, hm, hown, hbel⟩ := hrel
    have hmk : m ≤ 1048576 := by
      rw [hm]
      have := trcOf_len (l.take k) who
      have := List.length_take_le k l
      omega
    have HM := Lib.hid hm
    have HO := Lib.hid hown
    have HB := Lib.hid hbel
    clear hown hm
    by_cases hlt : k < n
    · obtain ⟨i1, b1, o1, f1, cs, rfl, hb1, _, _, ⟨rfl, rfl⟩, e1⟩ := r k hlt
      have c0 := (hbel.cell (p := ⟨b1, o1 + k * 3 + 0, none⟩) hb1).trans (e1 0 (by simp))
      have c1 := (hbel.cell (p := ⟨b1, o1 + k * 3 + 1, none⟩) hb1).trans (e1 1 (by simp))
      have c2 := (hbel.cell (p := ⟨b1, o1 + k * 3 + 2, none⟩) hb1).trans (e1 2 (by simp))
      simp only [Nat.add_zero, List.getElem_cons_zero, List.getElem_cons_succ] at c0 c1 c2
      clear r e1 hbel
      by_cases hq : l[k].who = who
      · have hq' : (l[k].who == who) = true := by simpa using hq
        have HQ := Lib.hid hq
        clear hq
        go_wp2_with (at_builtin; refine wpList_push rfl _ _ 41 86 i0 (.agg #[.int .i64 0, .int .i64 0, .int .i64 0]) 3 24 86 rfl Try.underlying41 hi hz0 hz1 hz2 rfl (by decide) (by decide) rfl rfl HO.out (news := [.int .i64 l[k].kind, .int .i64 l[k].who, .int .i64 l[k].n]) rfl (by simp [Value.oneCell']) (by omega) HB.out (Nat.le_refl _) HB.out.size ?_; intro v' w1 hown' hbel' hsz' _; have HO' := Lib.hid hown'; have HB' := Lib.hid hbel'; clear hown' hbel')
        go_roundw
        case rel => exact ⟨k + 1, m + 1, by omega, by go_num, by rw [trcOf_yes i1 HQ.out, HM.out]; simp, by rw [trcOf_yes i1 HQ.out, List.flatMap_append]; simpa [EvC] using HO'.out, HB'.out⟩
        case measure => simp [intOf]; omega
      · have hq' : (l[k].who == who) = false := by simpa using hq
        have HQ := Lib.hid hq
        clear hq
        go_wp2
        go_roundw
        case rel => exact ⟨k + 1, m, by omega, by go_num, by rw [trcOf_no i1 HQ.out, HM.out], by rw [trcOf_no i1 HQ.out]; exact HO.out, HB.out⟩
        case measure => simp [intOf]; omega
    · obtain rfl : k = n := by omega
      have hall : l.take k = l := List.take_of_length_le (by rw [hn.out]; exact Nat.le_refl _)
      have ho := HO.out
      have hm2 := HM.out
      rw [hall] at ho hm2
      obtain ⟨fp', g1, g2, g3, g4⟩ := SlR.of_owns ho hm2.symm EvC_len (flat_at EvC_len _)
      have HG1 := Lib.hid (show SlR 3 evR wr (trcOf l who) _ fp' from g1)
      have HG2 := Lib.hid g2
      have HG3 := Lib.hid g3
      have HG4 := Lib.hid g4
      clear r hbel ho hm2 hall g1 g2 g3 g4
      go_wp2
      go_ret
      exact ⟨_, fp', rfl, HG1.out, ⟨HG2.out, HG3.out, HG4.out⟩, HB.out⟩

theorem clipEv_any (a : Option Addr) (n c : Nat) (hc : n ≤ c) (hm : c ≤ maxLen) (w : World) :
    Calls Try.prog 68 #[.slice a n c] w fun e w' => e = .returned (.slice a n n) ∧ w = w' := by
  unfold maxLen at hm
  go_enter Try.func68, Try.ntmps68
  go_wp2
  go_ret
  simp

set_option maxRecDepth 100000 in
set_option maxHeartbeats 1600000 in
theorem iTrcOf_any (v : Value) (l : List Ev) (fp : List Nat) (who : Int) (hs : sm_evs l) (w : World) (g : SlR 3 evR w l v fp) :
    Calls Try.prog 31 #[v, .int .i64 who] w fun e w' => ∃ v' fp', e = .returned v' ∧ SlR 3 evR w' (trcOf l who) v' fp' ∧ New fp' w w' ∧ Below w.heap.size w w' := by
  obtain ⟨a, n, cap, rfl, hn, hcap, hmax, hcm, r⟩ := g.opened
  have hns : n ≤ 1048576 := by rw [← hn.out]; exact hs
  clear g hs
  obtain ⟨i0, hi, hz0, hz1, hz2⟩ := info_parts info_evs
  go_enter Try.func31, Try.ntmps31
  go_wp2_with fail
  go_loopw [5, 10] (fun v i wr => ∃ k m : Nat, k ≤ n ∧ i = .int .i64 k ∧ m = (trcOf (l.take k) who).length ∧ wr.ownsRow w.heap.size 86 3 v m ((trcOf (l.take k) who).flatMap EvC) ∧ Below w.heap.size w wr) (fun _ i _ => n - (intOf i).toNat)
  case atStart => exact ⟨0, 0, Nat.zero_le _, rfl, rfl, World.ownsRow_nil _ _ _ _, Below.refl _ _⟩
  case round =>
    obtain ⟨k, m, hk, rfl, hm, hown, hbel⟩ := hrel
    have hmk : m ≤ 1048576 := by
      rw [hm]
      have := trcOf_len (l.take k) who
      have := List.length_take_le k l
      omega
    have HM := Lib.hid hm
    have HO := Lib.hid hown
    have HB := Lib.hid hbel
    clear hown hm
    by_cases hlt : k < n
    · obtain ⟨i1, b1, o1, f1, cs, rfl, hb1, _, _, ⟨rfl, rfl⟩, e1⟩ := r k hlt
      have c0 := (hbel.cell (p := ⟨b1, o1 + k * 3 + 0, none⟩) hb1).trans (e1 0 (by simp))
      have c1 := (hbel.cell (p := ⟨b1, o1 + k * 3 + 1, none⟩) hb1).trans (e1 1 (by simp))
      have c2 := (hbel.cell (p := ⟨b1, o1 + k * 3 + 2, none⟩) hb1).trans (e1 2 (by simp))
      simp only [Nat.add_zero, List.getElem_cons_zero, List.getElem_cons_succ] at c0 c1 c2
      have HBa := Lib.hid (HB.out.alloc HB.out.size (.cells #[.int .i64 l[k].kind, .int .i64 l[k].who, .int .i64 l[k].n] 86))
      have HOa := Lib.hid (HO.out.alloc (.cells #[.int .i64 l[k].kind, .int .i64 l[k].who, .int .i64 l[k].n] 86))
      clear r e1 hbel
      by_cases hq : l[k].who = who
      · have hq' : (l[k].who == who) = true := by simpa using hq
        have HQ := Lib.hid hq
        clear hq
        go_wp2_with (at_builtin; refine wpList_push rfl _ _ 41 86 i0 (.agg #[.int .i64 0, .int .i64 0, .int .i64 0]) 3 24 86 rfl Try.underlying41 hi hz0 hz1 hz2 rfl (by decide) (by decide) rfl (by simp [Act.eval]) HOa.out (news := [.int .i64 l[k].kind, .int .i64 l[k].who, .int .i64 l[k].n]) rfl (by simp [Value.oneCell']) (by omega) HBa.out (Nat.le_refl _) HBa.out.size ?_; intro v' w1 hown' hbel' hsz' _; have HO' := Lib.hid hown'; have HB' := Lib.hid hbel'; clear hown' hbel')
        go_roundw
        case rel => exact ⟨k + 1, m + 1, by omega, by go_num, by rw [trcOf_yes i1 HQ.out, HM.out]; simp, by rw [trcOf_yes i1 HQ.out, List.flatMap_append]; simpa [EvC] using HO'.out, HB'.out⟩
        case measure => simp [intOf]; omega
      · have hq' : (l[k].who == who) = false := by simpa using hq
        have HQ := Lib.hid hq
        clear hq
        go_wp2
        go_roundw
        case rel => exact ⟨k + 1, m, by omega, by go_num, by rw [trcOf_no i1 HQ.out, HM.out], by rw [trcOf_no i1 HQ.out]; exact HOa.out, HBa.out⟩
        case measure => simp [intOf]; omega
    · obtain rfl : k = n := by omega
      have hall : l.take k = l := List.take_of_length_le (by rw [hn.out]; exact Nat.le_refl _)
      have ho := HO.out
      have hm2 := HM.out
      rw [hall] at ho hm2
      obtain ⟨fp', g1, g2, g3, g4⟩ := SlR.of_owns ho hm2.symm EvC_len (flat_at EvC_len _)
      obtain ⟨a2, n2, c2, rfl, hn2, hcap2, hmax2, hcm2, _⟩ := g1.opened
      have HG1 := Lib.hid (show SlR 3 evR wr (trcOf l who) _ fp' from SlR.clip g1)
      have HG2 := Lib.hid g2
      have HG3 := Lib.hid g3
      have HG4 := Lib.hid g4
      clear r hbel ho hm2 hall g1 g2 g3 g4 hn2
      go_wp2_with (go_at_call 68; refine (clipEv_any _ _ _ hcap2 hcm2 _).mono ?_; rintro e w' ⟨rfl, rfl⟩)
      go_ret
      exact ⟨_, fp', rfl, HG1.out, ⟨HG2.out, HG3.out, HG4.out⟩, HB.out⟩

/-- the element at place i, marked from k on -/
def el_evs (k : Int) (i : Nat) : Ev := ⟨k + 3 * (i : Int), k + 3 * (i : Int) + 1, k + 3 * (i : Int) + 1 + 1⟩
def mk_evs (k : Int) (l : List Ev) : List Ev := (List.range l.length).map (el_evs k)
def cnt_evs (l : List Ev) : Int := 3 * (l.length : Int)
theorem cnt_evs_in {l : List Ev} (h : sm_evs l) : 0 ≤ cnt_evs l ∧ cnt_evs l ≤ 3145728 := by unfold cnt_evs; unfold sm_evs at h; omega
def mix_evs (k : Int) (l : List Ev) (j : Nat) : List Ev := (List.range j).map (el_evs k) ++ l.drop j
theorem mix_evs_zero (k : Int) (l : List Ev) : mix_evs k l 0 = l := by simp [mix_evs]
theorem mix_evs_all (k : Int) (l : List Ev) (j : Nat) (h : l.length = j) : mix_evs k l j = mk_evs k l := by simp [mix_evs, mk_evs, h]
theorem mix_evs_set (k : Int) (l : List Ev) (j : Nat) (h : j < l.length) : (mix_evs k l j).set j (el_evs k j) = mix_evs k l (j + 1) := by
  unfold mix_evs
  rw [List.set_append_right _ _ (by simp), List.drop_eq_getElem_cons h, List.length_map, List.length_range, Nat.sub_self, List.set_cons_zero, List.range_succ, List.map_append, List.append_assoc]
  rfl

set_option maxRecDepth 100000 in
set_option maxHeartbeats 1600000 in
theorem mark_evs (v : Value) (l : List Ev) (fp : List Nat) (k : Int) (h0 : 0 ≤ k) (h1 : k ≤ 1099511627776) (hs : sm_evs l) (w : World) (g : SlR 3 evR w l v fp) (f : Free fp w) :
    Calls Try.prog 33 #[v, .int .i64 k] w fun e w' => e = .returned (.int .i64 (k + cnt_evs l)) ∧ SlR 3 evR w' (mk_evs k l) v fp ∧ Chg fp w w' ∧ Free fp w' := by
  obtain ⟨a, n, cap, rfl, hn, hcap, hmax, hcm, r⟩ := g.opened
  have hns : n ≤ 1048576 := by rw [← hn.out]; exact hs
  have G := Lib.hid g
  have F := Lib.hid f
  clear r g f hs
  go_enter Try.func33, Try.ntmps33
  go_wp2
  go_loopw [1, 5] (fun q i wr => ∃ j : Nat, j ≤ n ∧ i = .int .i64 j ∧ q = .int .i64 (k + 3 * (j : Int)) ∧ SlR 3 evR wr (mix_evs k l j) (.slice a n cap) fp ∧ Chg fp w wr ∧ Free fp wr) (fun _ i _ => n - (intOf i).toNat)
  case atStart => exact ⟨0, Nat.zero_le _, rfl, by simp, by rw [mix_evs_zero]; exact G.out, Chg.refl _ _, F.out⟩
  case round =>
    obtain ⟨j, hj, rfl, rfl, gi, hc, hf⟩ := hrel
    have GI := Lib.hid gi
    have HC := Lib.hid hc
    have HF := Lib.hid hf
    by_cases hlt : j < n
    · obtain ⟨a', n', cap', e, hn', _, _, _, r⟩ := gi.opened
      simp only [Value.slice.injEq] at e
      obtain ⟨rfl, rfl, rfl⟩ := e
      obtain ⟨i1, b1, o1, f1, cs, rfl, hb1, hbm, _, ⟨rfl, rfl⟩, e1⟩ := r j hlt
      obtain ⟨y0, c0⟩ : ∃ x, wr.cell? ⟨b1, o1 + j * 3 + 0, none⟩ = some x := ⟨_, e1 0 (by simp)⟩
      have d0 := hf b1 hbm (o1 + j * 3 + 0)
      obtain ⟨y1, c1⟩ : ∃ x, wr.cell? ⟨b1, o1 + j * 3 + 1, none⟩ = some x := ⟨_, e1 1 (by simp)⟩
      have d1 := hf b1 hbm (o1 + j * 3 + 1)
      obtain ⟨y2, c2⟩ : ∃ x, wr.cell? ⟨b1, o1 + j * 3 + 2, none⟩ = some x := ⟨_, e1 2 (by simp)⟩
      have d2 := hf b1 hbm (o1 + j * 3 + 2)
      simp only [Nat.add_zero] at c0 d0
      have hin : j < l.length := by rw [hn.out]; exact hlt
      clear r gi hc hf hbm e1
      go_wp2
      go_roundw
      case rel =>
        obtain ⟨t1, t2, t3⟩ := SlR.put EvC_len GI.out rfl hlt (el_evs k j)
        rw [mix_evs_set k l j hin] at t1
        exact ⟨j + 1, by omega, by go_num, by go_num, t1, HC.out.trans' t2, putCells_free (g := b1) (EvC (el_evs k j)) _ (o1 + j * 3) HF.out⟩
      case measure => simp [intOf]; omega
    · clear gi hc hf
      obtain rfl : j = n := by omega
      go_wp2
      go_ret
      exact ⟨ret_int (by unfold cnt_evs; rw [hn.out]), by rw [← mix_evs_all k l j hn.out]; exact GI.out, HC.out, HF.out⟩

set_option maxRecDepth 100000 in
set_option maxHeartbeats 1600000 in
theorem held_evs (v : Value) (l : List Ev) (fp : List Nat) (k : Int) (h0 : 0 ≤ k) (h1 : k ≤ 1099511627776) (hs : sm_evs l) (w : World) (g : SlR 3 evR w (mk_evs k l) v fp) :
    Calls Try.prog 34 #[v, .int .i64 k] w fun e w' => e = .returned (.int .i64 (k + cnt_evs l)) ∧ Below w.heap.size w w' := by
  obtain ⟨a, n, cap, rfl, hn, hcap, hmax, hcm, r⟩ := g.opened
  have hnl : l.length = n := by have := hn.out; simpa [mk_evs] using this
  have hns : n ≤ 1048576 := by rw [← hnl]; exact hs
  have HN := Lib.hid hnl
  clear g hs hn hnl
  go_enter Try.func34, Try.ntmps34
  go_wp2
  go_loop [1, 5] (fun q i => ∃ j : Nat, j ≤ n ∧ i = .int .i64 j ∧ q = .int .i64 (k + 3 * (j : Int))) (fun _ i => n - (intOf i).toNat)
  case atStart => exact ⟨0, Nat.zero_le _, rfl, by simp⟩
  case round =>
    obtain ⟨j, hj, rfl, rfl⟩ := hrel
    by_cases hlt : j < n
    · obtain ⟨i1, b1, o1, f1, cs, rfl, hb1, hbm, _, ⟨rfl, rfl⟩, e1⟩ := r j hlt
      have he : (mk_evs k l)[j] = el_evs k j := by simp [mk_evs]
      rw [he] at e1
      have c0 : w.cell? ⟨b1, o1 + j * 3 + 0, none⟩ = some (.int .i64 (k + 3 * (j : Int))) := e1 0 (by simp)
      have c1 : w.cell? ⟨b1, o1 + j * 3 + 1, none⟩ = some (.int .i64 (k + 3 * (j : Int) + 1)) := e1 1 (by simp)
      have c2 : w.cell? ⟨b1, o1 + j * 3 + 2, none⟩ = some (.int .i64 (k + 3 * (j : Int) + 1 + 1)) := e1 2 (by simp)
      simp only [Nat.add_zero] at c0
      clear r hbm e1 he
      go_wp2
      go_round
      case rel => exact ⟨j + 1, by omega, by go_num, by go_num⟩
      case measure => simp [intOf]; omega
    · clear r
      obtain rfl : j = n := by omega
      go_wp2
      go_ret
      exact ⟨ret_int (by unfold cnt_evs; rw [HN.out]), Below.refl _ _⟩


end Go.Proofs.Ytlamjbcacminmaa
