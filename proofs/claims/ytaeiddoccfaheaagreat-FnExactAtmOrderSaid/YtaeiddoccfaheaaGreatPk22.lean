/-
 Texts of this claim laid together: Bus.
-/
import Derived.Test.YtaeiddoccfaheaaGreatProg
import Derived.Test.YtaeiddoccfaheaaGreatPk04
import Derived.Test.YtaeiddoccfaheaaGreatPk21
import Derived.Test.YtaeiddoccfaheaaGreatPk10
import Derived.OwnWalk
import Derived.KernelRfl
import Derived.WalkSmall
import Derived.Deep.QuietTactic
import Derived.BigQuiet
import Derived.StillTailTactics
set_option linter.unusedVariables false
set_option linter.unusedSimpArgs false
namespace Go.Proofs.YtaeiddoccfaheaaGreat
open Go.RowKit Go.ChangeShapes
theorem opens_reqs : Opens Tryz.prog 88 (slR 7 reqR) :=
 opens_slice Tryz.underlying88 (by kernel_rfl) (by decide) opens_Req reqR_fits
def sm_reqs (l : List Req) : Prop := l.length <= 1048576 ∧ ∀ k (h : k < l.length), sm_Req l[k]
set_option maxRecDepth 100000 in
set_option maxHeartbeats 1600000 in
theorem sz_reqs (v : Value) (l : List Req) (fp : List Nat) (left : Int) (h0 : 0 <= left) (h1 : left <= 1048576) (w : World) (g : SlR 7 reqR w l v fp) :
 Calls Tryz.prog 48 #[v, .int .i64 left] w (SzP left (sm_reqs l) w) := by
 obtain ⟨a, n, cap, rfl, hn, hcap, hmax, hcm, r⟩ := g.opened
 clear g
 by_cases h : left < n
 · clear r
   go_enter Tryz.func48, Tryz.ntmps48
   go_wp2
   go_ret
   exact SzP.neg h0 (Below.refl _ _)
 have d0 : decide (left - n < 0) = false := decide_eq_false (by omega)
 go_enter Tryz.func48, Tryz.ntmps48
 go_wp2_with fail
 go_loopw [1, 5] (fun z i wr => ∃ (k : Nat) (t : Int), k <= n ∧ i = .int .i64 k ∧ z = .int .i64 t ∧ 0 <= t ∧ t <= left - n ∧ (∀ j (h : j < l.length), j < k -> sm_Req l[j]) ∧ Below w.heap.size w wr) (fun _ i _ => n - (intOf i).toNat)
 case atStart => exact ⟨0, _, Nat.zero_le _, rfl, rfl, by omega, by omega, fun j _ h => absurd h (Nat.not_lt_zero j), Below.refl _ _⟩
 case round =>
  obtain ⟨k, t, hk, rfl, rfl, t0, t1, hp, hb⟩ := hrel
  have HP := Lib.hid hp
  have HB := Lib.hid hb
  clear hp
  by_cases hlt : k < n
  · obtain ⟨i1, b1, o1, xf, cs, rfl, hb1, _, _, ⟨xv0, xv1, xp0, xp1, rfl, rfl, xg0, xg1⟩, e1⟩ := r k hlt
    have c0 := (hb.cell (p := ⟨b1, o1 + k * 7 + 0, none⟩) hb1).trans (e1 0 (by simp))
    have c1 := (hb.cell (p := ⟨b1, o1 + k * 7 + 1, none⟩) hb1).trans (e1 1 (by simp))
    have c2 := (hb.cell (p := ⟨b1, o1 + k * 7 + 2, none⟩) hb1).trans (e1 2 (by simp))
    have c3 := (hb.cell (p := ⟨b1, o1 + k * 7 + 3, none⟩) hb1).trans (e1 3 (by simp))
    have c4 := (hb.cell (p := ⟨b1, o1 + k * 7 + 4, none⟩) hb1).trans (e1 4 (by simp))
    have c5 := (hb.cell (p := ⟨b1, o1 + k * 7 + 5, none⟩) hb1).trans (e1 5 (by simp))
    have c6 := (hb.cell (p := ⟨b1, o1 + k * 7 + 6, none⟩) hb1).trans (e1 6 (by simp))
    simp only [Nat.add_zero, List.getElem_cons_zero, List.getElem_cons_succ] at c0 c1 c2 c3 c4 c5 c6
    have G0 := Lib.hid (SlR.below intR_fits xg0 hb)
    have G1 := Lib.hid (SlR.below intR_fits xg1 hb)
    clear r e1 hb xg0 xg1
    go_wp2_with fail
    refine (sz_Req l[k] _ _ xp0 xp1 t (by omega) (by omega) _ G0.out G1.out).mono ?_
    rintro e w2 ⟨z, rfl, le, sm, b2⟩
    have HB2 := Lib.hid (HB.out.trans (b2.mono HB.out.size))
    have SM := Lib.hid sm
    clear b2 sm c0 c1 c2 c3 c4 c5 c6
    cases hq : decide (z < 0)
    case' true =>
     go_wp2
     go_ret
     exact SzP.neg h0 HB2.out
    have z0 : 0 <= z := by have := of_decide_eq_false hq; omega
    go_wp2
    go_roundw
    case rel => exact ⟨k + 1, z, by omega, by go_num, rfl, z0, by omega, fun j h hj => (by
     by_cases e : j = k
     · subst e; exact SM.out z0
     · exact HP.out j h (by omega)), HB2.out⟩
    case measure => simp [intOf]; omega
  · clear r hb
    go_wp2
    go_ret
    exact SzP.pos (by omega) ⟨by rw [hn.out]; omega, fun k h => HP.out k h (by rw [hn.out] at h; omega)⟩ HB.out
set_option maxRecDepth 100000 in
set_option maxHeartbeats 1600000 in
theorem eq_reqs (v1 v2 : Value) (l1 l2 : List Req) (fp1 fp2 : List Nat) (w : World) (g1 : SlR 7 reqR w l1 v1 fp1) (g2 : SlR 7 reqR w l2 v2 fp2) :
 Calls Tryz.prog 78 #[v1, v2] w fun e w' => e = .returned (.bool (decide (l1 = l2))) ∧ Below w.heap.size w w' := by
 obtain ⟨a1, n1, c1, rfl, hn1, k1, m1, _, r1⟩ := g1.opened
 obtain ⟨a2, n2, c2, rfl, hn2, k2, m2, _, r2⟩ := g2.opened
 clear g1 g2
 by_cases hL : n2 = n1
 · obtain rfl := hL
   go_enter Tryz.func78, Tryz.ntmps78
   go_wp2
   go_loopw [5] (fun i wr => ∃ k : Nat, k <= n2 ∧ i = .int .i64 k ∧ l1.take k = l2.take k ∧ Below w.heap.size w wr) (fun i _ => n2 - (intOf i).toNat)
   case atStart => exact ⟨0, Nat.zero_le _, rfl, rfl, Below.refl _ _⟩
   case round =>
    obtain ⟨k, hk, rfl, ht, hb⟩ := hrel
    have HT := Lib.hid ht
    have HB := Lib.hid hb
    clear ht
    by_cases hlt : k < n2
    · obtain ⟨i1, b1, o1, xf, cs1, rfl, hb1, _, _, ⟨xv0, xv1, xp0, xp1, rfl, rfl, xg0, xg1⟩, e1⟩ := r1 k hlt
      obtain ⟨i2, b2, o2, yf, cs2, rfl, hb2, _, _, ⟨yv0, yv1, yp0, yp1, rfl, rfl, yg0, yg1⟩, e2⟩ := r2 k hlt
      have c0 := (hb.cell (p := ⟨b1, o1 + k * 7 + 0, none⟩) hb1).trans (e1 0 (by simp))
      have c1 := (hb.cell (p := ⟨b1, o1 + k * 7 + 1, none⟩) hb1).trans (e1 1 (by simp))
      have c2 := (hb.cell (p := ⟨b1, o1 + k * 7 + 2, none⟩) hb1).trans (e1 2 (by simp))
      have c3 := (hb.cell (p := ⟨b1, o1 + k * 7 + 3, none⟩) hb1).trans (e1 3 (by simp))
      have c4 := (hb.cell (p := ⟨b1, o1 + k * 7 + 4, none⟩) hb1).trans (e1 4 (by simp))
      have c5 := (hb.cell (p := ⟨b1, o1 + k * 7 + 5, none⟩) hb1).trans (e1 5 (by simp))
      have c6 := (hb.cell (p := ⟨b1, o1 + k * 7 + 6, none⟩) hb1).trans (e1 6 (by simp))
      have d0 := (hb.cell (p := ⟨b2, o2 + k * 7 + 0, none⟩) hb2).trans (e2 0 (by simp))
      have d1 := (hb.cell (p := ⟨b2, o2 + k * 7 + 1, none⟩) hb2).trans (e2 1 (by simp))
      have d2 := (hb.cell (p := ⟨b2, o2 + k * 7 + 2, none⟩) hb2).trans (e2 2 (by simp))
      have d3 := (hb.cell (p := ⟨b2, o2 + k * 7 + 3, none⟩) hb2).trans (e2 3 (by simp))
      have d4 := (hb.cell (p := ⟨b2, o2 + k * 7 + 4, none⟩) hb2).trans (e2 4 (by simp))
      have d5 := (hb.cell (p := ⟨b2, o2 + k * 7 + 5, none⟩) hb2).trans (e2 5 (by simp))
      have d6 := (hb.cell (p := ⟨b2, o2 + k * 7 + 6, none⟩) hb2).trans (e2 6 (by simp))
      simp only [Nat.add_zero, List.getElem_cons_zero, List.getElem_cons_succ] at c0 d0 c1 d1 c2 d2 c3 d3 c4 d4 c5 d5 c6 d6
      have hbd := HB.out.trans (Below.refl _ wr).drew
      have G0 := Lib.hid (SlR.below intR_fits xg0 hbd)
      have K0 := Lib.hid (SlR.below intR_fits yg0 hbd)
      have G1 := Lib.hid (SlR.below intR_fits xg1 hbd)
      have K1 := Lib.hid (SlR.below intR_fits yg1 hbd)
      clear r1 r2 e1 e2 hb hbd xg0 yg0 xg1 yg1
      go_wp2_with fail
      go_still_tail 8, (by kernel_rfl)
      change wpList _ _ _ _ _ wr.drew
      clear c0 d0 c1 d1 c2 d2 c3 d3 c4 d4 c5 d5 c6 d6
      go_wp2_with fail
      refine (eq_Req l1[k] l2[k] _ _ _ _ xp0 xp1 yp0 yp1 _ G0.out G1.out K0.out K1.out).mono ?_
      rintro e w2 ⟨rfl, b3⟩
      have HB2 := Lib.hid ((HB.out.trans (Below.refl _ _).drew).trans (b3.mono HB.out.size))
      clear b3
      cases hq : decide (l1[k] = l2[k])
      · have HQ := Lib.hid (of_decide_eq_false hq)
        clear hq
        go_wp2
        go_ret
        exact ⟨ret_bool (by simp; intro e; exact HQ.out (by simp [e])), HB2.out⟩
      · have HQ := Lib.hid (of_decide_eq_true hq)
        clear hq
        go_wp2
        go_roundw
        case rel => exact ⟨k + 1, by omega, by go_num, take_succ_eq HT.out i1 i2 HQ.out, HB2.out⟩
        case measure => simp [intOf]; omega
    · clear r1 r2 hb
      go_wp2
      go_ret
      exact ⟨ret_bool (by simp [take_all_eq HT.out hn1.out hn2.out (by omega)]), HB.out⟩
 · clear r1 r2
   have hne : l1 ≠ l2 := fun e => hL (by rw [<- hn1.out, <- hn2.out, e])
   have hq : ((n1 : Int) != n2) = true := by simp; omega
   go_enter Tryz.func78, Tryz.ntmps78
   go_wp2
   go_ret
   exact ⟨ret_bool (by simp [hne]), Below.refl _ _⟩
theorem info_reqs : (Tryz.prog.info? 67).map (fun i => (i.zero, i.size, i.bytes)) = some (some (.agg #[.int .i64 0, .int .i64 0, .int .i64 0, .int .i64 0, .bool false, .slice none 0 0, .slice none 0 0]), 7, 88) := by kernel_rfl
set_option maxRecDepth 100000 in
set_option maxHeartbeats 1600000 in
theorem to_reqs (v : Value) (l : List Req) (fp : List Nat) (hs : sm_reqs l) (w : World) (g : SlR 7 reqR w l v fp) :
 Calls Tryz.prog 58 #[v] w fun e w' => ∃ v' fp', e = .returned v' ∧ SlR 7 reqR w' l v' fp' ∧ New fp' w w' ∧ Below w.heap.size w w' := by
 obtain ⟨a, n, cap, rfl, hn, hcap, hmax, hcm, r⟩ := g.opened
 have hns : n <= 1048576 := by rw [<- hn.out]; exact hs.1
 have HS := Lib.hid hs.2
 clear g hs
 obtain ⟨i0, hi, hz0, hz1, hz2⟩ := info_parts info_reqs
 go_enter Tryz.func58, Tryz.ntmps58
 go_wp2_with (at_make; refine wpList_make_full _ rfl _ _ 61 rfl w.heap.size 67 i0 (.agg #[.int .i64 0, .int .i64 0, .int .i64 0, .int .i64 0, .bool false, .slice none 0 0, .slice none 0 0]) 7 Tryz.underlying61 hi hz0 hz1 _ _ _ _ n rfl rfl rfl rfl (by rw [hz2]; omega) (by unfold maxLen; omega) (Nat.le_refl _) ?_; intro w1 hown hgr)
 go_loopw [4] (fun i wr => ∃ k : Nat, k <= n ∧ i = .int .i64 k ∧ Part 7 reqR 67 w.heap.size n wr l k ∧ Below w.heap.size w wr) (fun i _ => n - (intOf i).toNat)
 case atStart => exact ⟨0, Nat.zero_le _, rfl, Part.start hown, (Below.refl _ _).grown hgr (Nat.le_refl _) (fun k hk => by simp at hk)⟩
 case round =>
  clear hown hgr
  obtain ⟨k, hk, rfl, hpt, hb⟩ := hrel
  have HP := Lib.hid hpt
  have HB := Lib.hid hb
  clear hpt
  by_cases hlt : k < n
  · obtain ⟨i1, b1, o1, xf, cs, rfl, hb1, _, _, ⟨xv0, xv1, xp0, xp1, rfl, rfl, xg0, xg1⟩, e1⟩ := r k hlt
    have c0 := (hb.cell (p := ⟨b1, o1 + k * 7 + 0, none⟩) hb1).trans (e1 0 (by simp))
    have c1 := (hb.cell (p := ⟨b1, o1 + k * 7 + 1, none⟩) hb1).trans (e1 1 (by simp))
    have c2 := (hb.cell (p := ⟨b1, o1 + k * 7 + 2, none⟩) hb1).trans (e1 2 (by simp))
    have c3 := (hb.cell (p := ⟨b1, o1 + k * 7 + 3, none⟩) hb1).trans (e1 3 (by simp))
    have c4 := (hb.cell (p := ⟨b1, o1 + k * 7 + 4, none⟩) hb1).trans (e1 4 (by simp))
    have c5 := (hb.cell (p := ⟨b1, o1 + k * 7 + 5, none⟩) hb1).trans (e1 5 (by simp))
    have c6 := (hb.cell (p := ⟨b1, o1 + k * 7 + 6, none⟩) hb1).trans (e1 6 (by simp))
    simp only [Nat.add_zero, List.getElem_cons_zero, List.getElem_cons_succ] at c0 c1 c2 c3 c4 c5 c6
    have G0 := Lib.hid (SlR.below intR_fits xg0 hb)
    have G1 := Lib.hid (SlR.below intR_fits xg1 hb)
    clear r e1 hb xg0 xg1
    go_wp2_with fail
    refine (to_Req l[k] _ _ xp0 xp1 (HS.out k i1) _ G0.out G1.out).mono ?_
    rintro e w2 ⟨z0, q0, z1, q1, rfl, s0, s1, n2, b2⟩
    obtain ⟨za0, zl0, zc0, rfl⟩ := s0.form
    obtain ⟨za1, zl1, zc1, rfl⟩ := s1.form
    have HR := Lib.hid (show reqR w2 l[k] [.int .i64 l[k].id, .int .i64 l[k].kind, .int .i64 l[k].addr, .int .i64 l[k].many, .bool l[k].wrap, .slice za0 zl0 zc0, .slice za1 zl1 zc1] (q0 ++ q1) from ⟨_, _, q0, q1, rfl, rfl, s0, s1⟩)
    have HN := Lib.hid n2
    have HB2 := Lib.hid (HB.out.trans (b2.mono HB.out.size))
    have B2 := Lib.hid b2
    have hP2 := HP.out.below reqR_fits (by rw [hn.out]; omega) b2
    obtain ⟨x0, d0⟩ := hP2.there (k * 7 + 0) (by omega)
    obtain ⟨x1, d1⟩ := hP2.there (k * 7 + 1) (by omega)
    obtain ⟨x2, d2⟩ := hP2.there (k * 7 + 2) (by omega)
    obtain ⟨x3, d3⟩ := hP2.there (k * 7 + 3) (by omega)
    obtain ⟨x4, d4⟩ := hP2.there (k * 7 + 4) (by omega)
    obtain ⟨x5, d5⟩ := hP2.there (k * 7 + 5) (by omega)
    obtain ⟨x6, d6⟩ := hP2.there (k * 7 + 6) (by omega)
    have f0 := hP2.free (k * 7 + 0)
    have f1 := hP2.free (k * 7 + 1)
    have f2 := hP2.free (k * 7 + 2)
    have f3 := hP2.free (k * 7 + 3)
    have f4 := hP2.free (k * 7 + 4)
    have f5 := hP2.free (k * 7 + 5)
    have f6 := hP2.free (k * 7 + 6)
    simp only [Nat.add_zero] at d0 f0
    clear b2 hP2 n2 s0 s1 c0 c1 c2 c3 c4 c5 c6
    go_wp2
    go_roundw
    case rel => exact ⟨k + 1, by omega, by go_num, (by have h := HP.out.step reqR_fits hn.out i1 B2.out HR.out HN.out; (try simp only [Nat.mul_one] at h); exact h), (by have h := putCells_below (g := w.heap.size) (Nat.le_refl _) [.int .i64 l[k].id, .int .i64 l[k].kind, .int .i64 l[k].addr, .int .i64 l[k].many, .bool l[k].wrap, .slice za0 zl0 zc0, .slice za1 zl1 zc1] _ (k * 7) HB2.out; (try simp only [Nat.mul_one] at h); exact h)⟩
    case measure => simp [intOf]; omega
  · obtain rfl : k = n := by omega
    obtain ⟨fp', g1, n1⟩ := HP.out.done reqR_fits (w0 := w) hn.out (by unfold maxLen; omega) (Nat.le_refl _)
    have HG1 := Lib.hid g1
    have HN1 := Lib.hid n1
    clear r hb g1 n1
    go_wp2
    go_ret
    exact ⟨_, fp', rfl, HG1.out, HN1.out, HB.out⟩
theorem opens_reqss : Opens Tryz.prog 24 (slR 1 (slR 7 reqR)) :=
 opens_slice Tryz.underlying24 (by kernel_rfl) (by decide) opens_reqs (slR_fits reqR_fits)
def sm_reqss (l : List (List Req)) : Prop := l.length <= 1048576 ∧ ∀ k (h : k < l.length), sm_reqs l[k]
set_option maxRecDepth 100000 in
set_option maxHeartbeats 1600000 in
theorem sz_reqss (v : Value) (l : List (List Req)) (fp : List Nat) (left : Int) (h0 : 0 <= left) (h1 : left <= 1048576) (w : World) (g : SlR 1 (slR 7 reqR) w l v fp) :
 Calls Tryz.prog 22 #[v, .int .i64 left] w (SzP left (sm_reqss l) w) := by
 obtain ⟨a, n, cap, rfl, hn, hcap, hmax, hcm, r⟩ := g.opened
 clear g
 by_cases h : left < n
 · clear r
   go_enter Tryz.func22, Tryz.ntmps22
   go_wp2
   go_ret
   exact SzP.neg h0 (Below.refl _ _)
 have d0 : decide (left - n < 0) = false := decide_eq_false (by omega)
 go_enter Tryz.func22, Tryz.ntmps22
 go_wp2_with fail
 go_loopw [1, 5] (fun z i wr => ∃ (k : Nat) (t : Int), k <= n ∧ i = .int .i64 k ∧ z = .int .i64 t ∧ 0 <= t ∧ t <= left - n ∧ (∀ j (h : j < l.length), j < k -> sm_reqs l[j]) ∧ Below w.heap.size w wr) (fun _ i _ => n - (intOf i).toNat)
 case atStart => exact ⟨0, _, Nat.zero_le _, rfl, rfl, by omega, by omega, fun j _ h => absurd h (Nat.not_lt_zero j), Below.refl _ _⟩
 case round =>
  obtain ⟨k, t, hk, rfl, rfl, t0, t1, hp, hb⟩ := hrel
  have HP := Lib.hid hp
  have HB := Lib.hid hb
  clear hp
  by_cases hlt : k < n
  · obtain ⟨i1, b1, o1, xf, cs, rfl, hb1, _, _, ⟨xv0, rfl, xg0⟩, e1⟩ := r k hlt
    have c0 := (hb.cell (p := ⟨b1, o1 + k * 1 + 0, none⟩) hb1).trans (e1 0 (by simp))
    simp only [Nat.mul_one, Nat.add_zero, List.getElem_cons_zero] at c0
    have G0 := Lib.hid (SlR.below reqR_fits xg0 hb)
    clear r e1 hb xg0
    go_wp2_with fail
    refine (sz_reqs _ l[k] xf t (by omega) (by omega) _ G0.out).mono ?_
    rintro e w2 ⟨z, rfl, le, sm, b2⟩
    have HB2 := Lib.hid (HB.out.trans (b2.mono HB.out.size))
    have SM := Lib.hid sm
    clear b2 sm c0
    cases hq : decide (z < 0)
    case' true =>
     go_wp2
     go_ret
     exact SzP.neg h0 HB2.out
    have z0 : 0 <= z := by have := of_decide_eq_false hq; omega
    go_wp2
    go_roundw
    case rel => exact ⟨k + 1, z, by omega, by go_num, rfl, z0, by omega, fun j h hj => (by
     by_cases e : j = k
     · subst e; exact SM.out z0
     · exact HP.out j h (by omega)), HB2.out⟩
    case measure => simp [intOf]; omega
  · clear r hb
    go_wp2
    go_ret
    exact SzP.pos (by omega) ⟨by rw [hn.out]; omega, fun k h => HP.out k h (by rw [hn.out] at h; omega)⟩ HB.out
set_option maxRecDepth 100000 in
set_option maxHeartbeats 1600000 in
theorem eq_reqss (v1 v2 : Value) (l1 l2 : List (List Req)) (fp1 fp2 : List Nat) (w : World) (g1 : SlR 1 (slR 7 reqR) w l1 v1 fp1) (g2 : SlR 1 (slR 7 reqR) w l2 v2 fp2) :
 Calls Tryz.prog 40 #[v1, v2] w fun e w' => e = .returned (.bool (decide (l1 = l2))) ∧ Below w.heap.size w w' := by
 obtain ⟨a1, n1, c1, rfl, hn1, k1, m1, _, r1⟩ := g1.opened
 obtain ⟨a2, n2, c2, rfl, hn2, k2, m2, _, r2⟩ := g2.opened
 clear g1 g2
 by_cases hL : n2 = n1
 · obtain rfl := hL
   go_enter Tryz.func40, Tryz.ntmps40
   go_wp2
   go_loopw [5] (fun i wr => ∃ k : Nat, k <= n2 ∧ i = .int .i64 k ∧ l1.take k = l2.take k ∧ Below w.heap.size w wr) (fun i _ => n2 - (intOf i).toNat)
   case atStart => exact ⟨0, Nat.zero_le _, rfl, rfl, Below.refl _ _⟩
   case round =>
    obtain ⟨k, hk, rfl, ht, hb⟩ := hrel
    have HT := Lib.hid ht
    have HB := Lib.hid hb
    clear ht
    by_cases hlt : k < n2
    · obtain ⟨i1, b1, o1, xf, cs1, rfl, hb1, _, _, ⟨xv0, rfl, xg0⟩, e1⟩ := r1 k hlt
      obtain ⟨i2, b2, o2, yf, cs2, rfl, hb2, _, _, ⟨yv0, rfl, yg0⟩, e2⟩ := r2 k hlt
      have c0 := (hb.cell (p := ⟨b1, o1 + k * 1 + 0, none⟩) hb1).trans (e1 0 (by simp))
      have d0 := (hb.cell (p := ⟨b2, o2 + k * 1 + 0, none⟩) hb2).trans (e2 0 (by simp))
      simp only [Nat.mul_one, Nat.add_zero, List.getElem_cons_zero] at c0 d0
      have hbd := HB.out.trans (Below.refl _ wr).drew
      have G0 := Lib.hid (SlR.below reqR_fits xg0 hbd)
      have K0 := Lib.hid (SlR.below reqR_fits yg0 hbd)
      clear r1 r2 e1 e2 hb hbd xg0 yg0
      go_wp2_with fail
      go_still_tail 8, (by kernel_rfl)
      change wpList _ _ _ _ _ wr.drew
      clear c0 d0
      go_wp2_with fail
      refine (eq_reqs _ _ l1[k] l2[k] xf yf _ G0.out K0.out).mono ?_
      rintro e w2 ⟨rfl, b3⟩
      have HB2 := Lib.hid ((HB.out.trans (Below.refl _ _).drew).trans (b3.mono HB.out.size))
      clear b3
      cases hq : decide (l1[k] = l2[k])
      · have HQ := Lib.hid (of_decide_eq_false hq)
        clear hq
        go_wp2
        go_ret
        exact ⟨ret_bool (by simp; intro e; exact HQ.out (by simp [e])), HB2.out⟩
      · have HQ := Lib.hid (of_decide_eq_true hq)
        clear hq
        go_wp2
        go_roundw
        case rel => exact ⟨k + 1, by omega, by go_num, take_succ_eq HT.out i1 i2 HQ.out, HB2.out⟩
        case measure => simp [intOf]; omega
    · clear r1 r2 hb
      go_wp2
      go_ret
      exact ⟨ret_bool (by simp [take_all_eq HT.out hn1.out hn2.out (by omega)]), HB.out⟩
 · clear r1 r2
   have hne : l1 ≠ l2 := fun e => hL (by rw [<- hn1.out, <- hn2.out, e])
   have hq : ((n1 : Int) != n2) = true := by simp; omega
   go_enter Tryz.func40, Tryz.ntmps40
   go_wp2
   go_ret
   exact ⟨ret_bool (by simp [hne]), Below.refl _ _⟩
theorem info_reqss : (Tryz.prog.info? 61).map (fun i => (i.zero, i.size, i.bytes)) = some (some (.slice none 0 0), 1, 24) := by kernel_rfl
set_option maxRecDepth 100000 in
set_option maxHeartbeats 1600000 in
theorem to_reqss (v : Value) (l : List (List Req)) (fp : List Nat) (hs : sm_reqss l) (w : World) (g : SlR 1 (slR 7 reqR) w l v fp) :
 Calls Tryz.prog 29 #[v] w fun e w' => ∃ v' fp', e = .returned v' ∧ SlR 1 (slR 7 reqR) w' l v' fp' ∧ New fp' w w' ∧ Below w.heap.size w w' := by
 obtain ⟨a, n, cap, rfl, hn, hcap, hmax, hcm, r⟩ := g.opened
 have hns : n <= 1048576 := by rw [<- hn.out]; exact hs.1
 have HS := Lib.hid hs.2
 clear g hs
 obtain ⟨i0, hi, hz0, hz1, hz2⟩ := info_parts info_reqss
 go_enter Tryz.func29, Tryz.ntmps29
 go_wp2_with (at_make; refine wpList_make_full _ rfl _ _ 38 rfl w.heap.size 61 i0 (.slice none 0 0) 1 Tryz.underlying38 hi hz0 hz1 _ _ _ _ n rfl rfl rfl rfl (by rw [hz2]; omega) (by unfold maxLen; omega) (Nat.le_refl _) ?_; intro w1 hown hgr)
 go_loopw [4] (fun i wr => ∃ k : Nat, k <= n ∧ i = .int .i64 k ∧ Part 1 (slR 7 reqR) 61 w.heap.size n wr l k ∧ Below w.heap.size w wr) (fun i _ => n - (intOf i).toNat)
 case atStart => exact ⟨0, Nat.zero_le _, rfl, Part.start hown, (Below.refl _ _).grown hgr (Nat.le_refl _) (fun k hk => by simp at hk)⟩
 case round =>
  clear hown hgr
  obtain ⟨k, hk, rfl, hpt, hb⟩ := hrel
  have HP := Lib.hid hpt
  have HB := Lib.hid hb
  clear hpt
  by_cases hlt : k < n
  · obtain ⟨i1, b1, o1, xf, cs, rfl, hb1, _, _, ⟨xv0, rfl, xg0⟩, e1⟩ := r k hlt
    have c0 := (hb.cell (p := ⟨b1, o1 + k * 1 + 0, none⟩) hb1).trans (e1 0 (by simp))
    simp only [Nat.mul_one, Nat.add_zero, List.getElem_cons_zero] at c0
    have G0 := Lib.hid (SlR.below reqR_fits xg0 hb)
    clear r e1 hb xg0
    go_wp2_with fail
    refine (to_reqs _ l[k] xf (HS.out k i1) _ G0.out).mono ?_
    rintro e w2 ⟨z0, q0, rfl, s0, n2, b2⟩
    obtain ⟨za0, zl0, zc0, rfl⟩ := s0.form
    have HR := Lib.hid (show (slR 7 reqR) w2 l[k] [.slice za0 zl0 zc0] (q0) from ⟨_, rfl, s0⟩)
    have HN := Lib.hid n2
    have HB2 := Lib.hid (HB.out.trans (b2.mono HB.out.size))
    have B2 := Lib.hid b2
    have hP2 := HP.out.below (slR_fits reqR_fits) (by rw [hn.out]; omega) b2
    obtain ⟨x0, d0⟩ := hP2.there (k * 1 + 0) (by omega)
    have f0 := hP2.free (k * 1 + 0)
    simp only [Nat.mul_one, Nat.add_zero] at d0 f0
    clear b2 hP2 n2 s0 c0
    go_wp2
    go_roundw
    case rel => exact ⟨k + 1, by omega, by go_num, (by have h := HP.out.step (slR_fits reqR_fits) hn.out i1 B2.out HR.out HN.out; (try simp only [Nat.mul_one] at h); exact h), (by have h := putCells_below (g := w.heap.size) (Nat.le_refl _) [.slice za0 zl0 zc0] _ (k * 1) HB2.out; (try simp only [Nat.mul_one] at h); exact h)⟩
    case measure => simp [intOf]; omega
  · obtain rfl : k = n := by omega
    obtain ⟨fp', g1, n1⟩ := HP.out.done (slR_fits reqR_fits) (w0 := w) hn.out (by unfold maxLen; omega) (Nat.le_refl _)
    have HG1 := Lib.hid g1
    have HN1 := Lib.hid n1
    clear r hb g1 n1
    go_wp2
    go_ret
    exact ⟨_, fp', rfl, HG1.out, HN1.out, HB.out⟩
structure Bus where
 map : List MR
 lat : List Int
 progs : List (List Req)
 deriving DecidableEq
def busR : Pr Bus := fun w x cs fp => ∃ (v0 v1 v2 : Value) (fp0 fp1 fp2 : List Nat), cs = [v0, v1, v2] ∧ fp = fp0 ++ fp1 ++ fp2 ∧ SlR 4 mrR w x.map v0 fp0 ∧ SlR 1 intR w x.lat v1 fp1 ∧ SlR 1 (slR 7 reqR) w x.progs v2 fp2
set_option maxRecDepth 100000 in
theorem opens_Bus : Opens Tryz.prog 26 busR := fun {H enc w fuel cs x} h => by
 obtain ⟨xs, n, _, _, hl, hx, hf⟩ := DataW.trod_struct Tryz.underlying26 h
 have hk : Tryz.prog.cellsOf 26 = 3 := by kernel_rfl
 have k_mrs : Tryz.prog.cellsOf 22 = 1 := by kernel_rfl
 have k_ints : Tryz.prog.cellsOf 23 = 1 := by kernel_rfl
 have k_reqss : Tryz.prog.cellsOf 24 = 1 := by kernel_rfl
 rw [hk] at hl
 have hx' : xs.length = 3 := hx
 match cs, hl with
 | [c0, c1, c2], _ =>
  obtain ⟨y0, fp0, v0, e0, s0⟩ := opens_mrs ((hf 0 _ rfl).trans (List.getElem?_eq_getElem (by omega)))
  obtain ⟨y1, fp1, v1, e1, s1⟩ := (opens_slice Tryz.underlying23 (by kernel_rfl) (by decide) (opens_int Tryz.underlying3) intR_fits : Opens Tryz.prog 23 (slR 1 intR)) ((hf 1 _ rfl).trans (List.getElem?_eq_getElem (by omega)))
  obtain ⟨y2, fp2, v2, e2, s2⟩ := opens_reqss ((hf 2 _ rfl).trans (List.getElem?_eq_getElem (by omega)))
  simp [k_mrs, k_ints, k_reqss] at e0 e1 e2
  subst e0
  subst e1
  subst e2
  exact ⟨⟨y0, y1, y2⟩, _, _, _, _, fp0, fp1, fp2, rfl, rfl, s0, s1, s2⟩
def sm_Bus (x : Bus) : Prop := sm_mrs x.map ∧ sm_ints x.lat ∧ sm_reqss x.progs
set_option maxRecDepth 100000 in
set_option maxHeartbeats 3200000 in
theorem sz_Bus (x : Bus) (v0 v1 v2 : Value) (fp0 fp1 fp2 : List Nat) (left : Int) (h0 : 0 <= left) (h1 : left <= 1048576) (w : World) (g0 : SlR 4 mrR w x.map v0 fp0) (g1 : SlR 1 intR w x.lat v1 fp1) (g2 : SlR 1 (slR 7 reqR) w x.progs v2 fp2) :
 Calls Tryz.prog 4 #[.agg #[v0, v1, v2], .int .i64 left] w (SzP left (sm_Bus x) w) := by
 have hb := below_alloc w (.cells #[v0, v1, v2] 26)
 have G0 := Lib.hid (SlR.below mrR_fits g0 hb)
 have G1 := Lib.hid (SlR.below intR_fits g1 hb)
 have G2 := Lib.hid (SlR.below (slR_fits reqR_fits) g2 hb)
 have B := Lib.hid hb
 clear hb g0 g1 g2
 go_enter Tryz.func4, Tryz.ntmps4
 go_wp2_with fail
 refine (sz_mrs _ x.map fp0 left (by omega) (by omega) _ G0.out).mono ?_
 rintro e w1 ⟨z0, rfl, le0, sm0, b⟩
 have X1 := keep_cell b (alloc1_new w _ _ 1 rfl)
 have X2 := keep_cell b (alloc1_new w _ _ 2 rfl)
 replace G1 := Lib.hid (SlR.below intR_fits G1.out b)
 replace G2 := Lib.hid (SlR.below (slR_fits reqR_fits) G2.out b)
 replace B := Lib.hid (B.out.trans (b.mono B.out.size))
 have S0 := Lib.hid sm0
 clear b sm0 G0
 cases q0 : decide (z0 < 0)
 case' true =>
  clear X1 X2
  go_wp2
  go_ret
  exact SzP.neg h0 B.out
 have p0 : 0 <= z0 := by have := of_decide_eq_false q0; omega
 go_wp2_with fail
 refine (sz_ints _ x.lat fp1 z0 (by omega) (by omega) _ G1.out).mono ?_
 rintro e w2 ⟨z1, rfl, le1, sm1, b⟩
 replace X2 := keep_cell b X2
 replace G2 := Lib.hid (SlR.below (slR_fits reqR_fits) G2.out b)
 replace B := Lib.hid (B.out.trans (b.mono B.out.size))
 have S1 := Lib.hid sm1
 clear b sm1 G1
 cases q1 : decide (z1 < 0)
 case' true =>
  clear X2
  go_wp2
  go_ret
  exact SzP.neg h0 B.out
 have p1 : 0 <= z1 := by have := of_decide_eq_false q1; omega
 go_wp2_with fail
 refine (sz_reqss _ x.progs fp2 z1 (by omega) (by omega) _ G2.out).mono ?_
 rintro e w3 ⟨z2, rfl, le2, sm2, b⟩
 replace B := Lib.hid (B.out.trans (b.mono B.out.size))
 have S2 := Lib.hid sm2
 clear b sm2 G2
 cases q2 : decide (z2 < 0)
 case' true =>
  skip
  go_wp2
  go_ret
  exact SzP.neg h0 B.out
 have p2 : 0 <= z2 := by have := of_decide_eq_false q2; omega
 go_wp2
 go_ret
 exact SzP.pos (by omega) ⟨S0.out (by omega), S1.out (by omega), S2.out (by omega)⟩ B.out
set_option maxRecDepth 100000 in
set_option maxHeartbeats 3200000 in
theorem eq_Bus (x y : Bus) (v0 v1 v2 u0 u1 u2 : Value) (fp0 fp1 fp2 fq0 fq1 fq2 : List Nat) (w : World) (g0 : SlR 4 mrR w x.map v0 fp0) (g1 : SlR 1 intR w x.lat v1 fp1) (g2 : SlR 1 (slR 7 reqR) w x.progs v2 fp2) (k0 : SlR 4 mrR w y.map u0 fq0) (k1 : SlR 1 intR w y.lat u1 fq1) (k2 : SlR 1 (slR 7 reqR) w y.progs u2 fq2) :
 Calls Tryz.prog 12 #[.agg #[v0, v1, v2], .agg #[u0, u1, u2]] w fun e w' => e = .returned (.bool (decide (x = y))) ∧ Below w.heap.size w w' := by
 have hb : Below w.heap.size w ((w.alloc (.cells #[v0, v1, v2] 40)).alloc (.cells #[u0, u1, u2] 40)) := ((Below.refl _ _).alloc (Nat.le_refl _) _).alloc (by simp) _
 have G0 := Lib.hid (SlR.below mrR_fits g0 hb)
 have K0 := Lib.hid (SlR.below mrR_fits k0 hb)
 have G1 := Lib.hid (SlR.below intR_fits g1 hb)
 have K1 := Lib.hid (SlR.below intR_fits k1 hb)
 have G2 := Lib.hid (SlR.below (slR_fits reqR_fits) g2 hb)
 have K2 := Lib.hid (SlR.below (slR_fits reqR_fits) k2 hb)
 have B := Lib.hid hb
 have HD := Lib.hid (show decide (x = y) = (decide (x.map = y.map) && decide (x.lat = y.lat) && decide (x.progs = y.progs)) by cases x; cases y; simp [Bool.and_assoc])
 clear hb g0 k0 g1 k1 g2 k2
 go_enter Tryz.func12, Tryz.ntmps12
 go_wp2_with fail
 refine (eq_mrs _ _ x.map y.map fp0 fq0 _ G0.out K0.out).mono ?_
 rintro e w1 ⟨rfl, b⟩
 have X1 := keep_cell b (alloc2_old w _ _ _ _ 1 rfl)
 have X2 := keep_cell b (alloc2_old w _ _ _ _ 2 rfl)
 have Y1 := keep_cell b (alloc2_new w _ _ _ _ 1 rfl)
 have Y2 := keep_cell b (alloc2_new w _ _ _ _ 2 rfl)
 replace G1 := Lib.hid (SlR.below intR_fits G1.out b)
 replace K1 := Lib.hid (SlR.below intR_fits K1.out b)
 replace G2 := Lib.hid (SlR.below (slR_fits reqR_fits) G2.out b)
 replace K2 := Lib.hid (SlR.below (slR_fits reqR_fits) K2.out b)
 replace B := Lib.hid (B.out.trans (b.mono B.out.size))
 clear b G0 K0
 cases e0 : decide (x.map = y.map)
 case' false =>
  have E0 := Lib.hid e0
  clear e0 X1 Y1 X2 Y2
  go_wp2
  go_ret
  exact ⟨ret_bool (by rw [HD.out, E0.out]; simp), B.out⟩
 have E0 := Lib.hid e0
 clear e0
 go_wp2_with fail
 refine (eq_ints _ _ x.lat y.lat fp1 fq1 _ G1.out K1.out).mono ?_
 rintro e w2 ⟨rfl, b⟩
 replace X2 := keep_cell b X2
 replace Y2 := keep_cell b Y2
 replace G2 := Lib.hid (SlR.below (slR_fits reqR_fits) G2.out b)
 replace K2 := Lib.hid (SlR.below (slR_fits reqR_fits) K2.out b)
 replace B := Lib.hid (B.out.trans (b.mono B.out.size))
 clear b G1 K1
 cases e1 : decide (x.lat = y.lat)
 case' false =>
  have E1 := Lib.hid e1
  clear e1 X2 Y2
  go_wp2
  go_ret
  exact ⟨ret_bool (by rw [HD.out, E0.out, E1.out]; simp), B.out⟩
 have E1 := Lib.hid e1
 clear e1
 go_wp2_with fail
 refine (eq_reqss _ _ x.progs y.progs fp2 fq2 _ G2.out K2.out).mono ?_
 rintro e w3 ⟨rfl, b⟩
 replace B := Lib.hid (B.out.trans (b.mono B.out.size))
 clear b G2 K2
 cases e2 : decide (x.progs = y.progs)
 case' false =>
  have E2 := Lib.hid e2
  clear e2 
  go_wp2
  go_ret
  exact ⟨ret_bool (by rw [HD.out, E0.out, E1.out, E2.out]; simp), B.out⟩
 have E2 := Lib.hid e2
 clear e2
 go_wp2
 go_ret
 exact ⟨ret_bool (by rw [HD.out,E0.out, E1.out, E2.out]; rfl), B.out⟩
set_option maxRecDepth 100000 in
set_option maxHeartbeats 3200000 in
theorem to_Bus (x : Bus) (v0 v1 v2 : Value) (fp0 fp1 fp2 : List Nat) (hs : sm_Bus x) (w : World) (g0 : SlR 4 mrR w x.map v0 fp0) (g1 : SlR 1 intR w x.lat v1 fp1) (g2 : SlR 1 (slR 7 reqR) w x.progs v2 fp2) :
 Calls Tryz.prog 7 #[.agg #[v0, v1, v2]] w fun e w' => ∃ v'0 fq0 v'1 fq1 v'2 fq2, e = .returned (.agg #[v'0, v'1, v'2]) ∧ SlR 4 mrR w' x.map v'0 fq0 ∧ SlR 1 intR w' x.lat v'1 fq1 ∧ SlR 1 (slR 7 reqR) w' x.progs v'2 fq2 ∧ New (fq0 ++ fq1 ++ fq2) w w' ∧ Below w.heap.size w w' := by
 have G0 := Lib.hid g0
 have G1 := Lib.hid g1
 have G2 := Lib.hid g2
 have HS := Lib.hid hs
 clear hs g0 g1 g2
 go_enter Tryz.func7, Tryz.ntmps7
 go_wp2_with fail
 refine (to_mrs _ x.map fp0 (HS.out.1) _ (G0.out.below mrR_fits (below3 w _ _ _))).mono ?_
 rintro e w1 ⟨v'0, fq0, rfl, r0, n0, b0⟩
 obtain ⟨a0, l0, k0, rfl⟩ := r0.form
 have X0 : w1.cell? ⟨w.heap.size, 0, none⟩ = some (v0) := keep_cell b0 (alloc_keep (alloc_keep (alloc1_new w _ _ 0 rfl) _) _)
 have X1 : w1.cell? ⟨w.heap.size, 1, none⟩ = some (v1) := keep_cell b0 (alloc_keep (alloc_keep (alloc1_new w _ _ 1 rfl) _) _)
 have X2 : w1.cell? ⟨w.heap.size, 2, none⟩ = some (v2) := keep_cell b0 (alloc_keep (alloc_keep (alloc1_new w _ _ 2 rfl) _) _)
 have M0 : w1.cell? ⟨w.heap.size + 1, 0, none⟩ = some (.slice none 0 0) := keep_cell b0 (alloc3_mid w _ _ _ _ _ 0 rfl)
 have M1 : w1.cell? ⟨w.heap.size + 1, 1, none⟩ = some (.slice none 0 0) := keep_cell b0 (alloc3_mid w _ _ _ _ _ 1 rfl)
 have M2 : w1.cell? ⟨w.heap.size + 1, 2, none⟩ = some (.slice none 0 0) := keep_cell b0 (alloc3_mid w _ _ _ _ _ 2 rfl)
 have O0 : w1.cell? ⟨w.heap.size + 1 + 1, 0, none⟩ = some (.slice none 0 0) := keep_cell b0 (alloc3_new w _ _ _ _ _ 0 rfl)
 have O1 : w1.cell? ⟨w.heap.size + 1 + 1, 1, none⟩ = some (.slice none 0 0) := keep_cell b0 (alloc3_new w _ _ _ _ _ 1 rfl)
 have O2 : w1.cell? ⟨w.heap.size + 1 + 1, 2, none⟩ = some (.slice none 0 0) := keep_cell b0 (alloc3_new w _ _ _ _ _ 2 rfl)
 have f10 := keep_free b0 (by simp) (alloc3_free w _ _ _ _ _ _ 0 (.inl rfl))
 have f11 := keep_free b0 (by simp) (alloc3_free w _ _ _ _ _ _ 1 (.inl rfl))
 have f12 := keep_free b0 (by simp) (alloc3_free w _ _ _ _ _ _ 2 (.inl rfl))
 have f20 := keep_free b0 (by simp) (alloc3_free w _ _ _ _ _ _ 0 (.inr rfl))
 have f21 := keep_free b0 (by simp) (alloc3_free w _ _ _ _ _ _ 1 (.inr rfl))
 have f22 := keep_free b0 (by simp) (alloc3_free w _ _ _ _ _ _ 2 (.inr rfl))
 have hB : Below w.heap.size w w1 := (below3 w _ _ _).trans (b0.mono (by simp; omega))
 have hlo0 : ∀ b, b ∈ fq0 -> w.heap.size + 1 + 1 < b := fun b hb => by have := n0.lo b hb; simp at this; omega
 have hz : w.heap.size + 1 + 1 < w1.heap.size := by have := b0.size; simp at this; omega
 have L0 : Hid (∀ b, b ∈ fq0 -> w.heap.size + 1 + 1 < b) := Lib.hid (fun b hb => by have := hlo0 b hb; omega)
 have D1 := Lib.hid (hB.setCell (p := ⟨w.heap.size + 1 + 1, 0, none⟩) (by simp; omega) (.slice a0 l0 k0))
 have Z1 := Lib.hid hz
 have ON0 := Lib.hid n0.once
 have FR0 := Lib.hid n0.free
 have LT0 : Hid (∀ b, b ∈ fq0 -> b < w1.heap.size) := Lib.hid (r0.lt mrR_fits)
 have HR0 := Lib.hid r0
 have HhB := Lib.hid hB
 have Hz := Lib.hid hz
 clear r0 n0 b0 hB hlo0 hz
 go_wp2_with fail
 have r0 := HR0.out
 have hB := HhB.out
 have hz := Hz.out
 clear HhB Hz HR0
 refine (to_ints _ x.lat fp1 (HS.out.2.1) _ (G1.out.below intR_fits D1.out)).mono ?_
 rintro e w2 ⟨v'1, fq1, rfl, r1, n1, b1⟩
 obtain ⟨a1, l1, k1, rfl⟩ := r1.form
 have X0' := keep_cell b1 ((World.cell?_setCell_other _ _ _ _ (by simp)).trans X0)
 have X1' := keep_cell b1 ((World.cell?_setCell_other _ _ _ _ (by simp)).trans X1)
 have X2' := keep_cell b1 ((World.cell?_setCell_other _ _ _ _ (by simp)).trans X2)
 have M0' := keep_cell b1 ((World.cell?_setCell_other _ _ _ _ (by simp)).trans M0)
 have M1' := keep_cell b1 ((World.cell?_setCell_other _ _ _ _ (by simp)).trans M1)
 have M2' := keep_cell b1 ((World.cell?_setCell_other _ _ _ _ (by simp)).trans M2)
 have O0' := keep_cell b1 (World.cell?_setCell_same _ _ _ O0)
 have O1' := keep_cell b1 ((World.cell?_setCell_other _ _ _ _ (by simp)).trans O1)
 have O2' := keep_cell b1 ((World.cell?_setCell_other _ _ _ _ (by simp)).trans O2)
 have f10' : w2.frozen? ⟨w.heap.size + 1, 0, none⟩ = false := keep_free b1 (by simp; omega) (by simpa using f10)
 have f11' : w2.frozen? ⟨w.heap.size + 1, 1, none⟩ = false := keep_free b1 (by simp; omega) (by simpa using f11)
 have f12' : w2.frozen? ⟨w.heap.size + 1, 2, none⟩ = false := keep_free b1 (by simp; omega) (by simpa using f12)
 have f20' : w2.frozen? ⟨w.heap.size + 1 + 1, 0, none⟩ = false := keep_free b1 (by simp; omega) (by simpa using f20)
 have f21' : w2.frozen? ⟨w.heap.size + 1 + 1, 1, none⟩ = false := keep_free b1 (by simp; omega) (by simpa using f21)
 have f22' : w2.frozen? ⟨w.heap.size + 1 + 1, 2, none⟩ = false := keep_free b1 (by simp; omega) (by simpa using f22)
 clear X0 M0 O0 f10 f20 X1 M1 O1 f11 f21 X2 M2 O2 f12 f22
 have X0 := X0'
 have X1 := X1'
 have X2 := X2'
 clear X0' X1' X2'
 have M0 := M0'
 have M1 := M1'
 have M2 := M2'
 clear M0' M1' M2'
 have O0 := O0'
 have O1 := O1'
 have O2 := O2'
 clear O0' O1' O2'
 have f10 := f10'
 have f11 := f11'
 have f12 := f12'
 clear f10' f11' f12'
 have f20 := f20'
 have f21 := f21'
 have f22 := f22'
 clear f20' f21' f22'
 have hB2 : Below w.heap.size w w2 := D1.out.trans (b1.mono (by have := D1.out.size; exact this))
 clear hB
 have hB := hB2
 clear hB2
 have hlo1 : ∀ b, b ∈ fq1 -> w1.heap.size <= b := fun b hb => by have := n1.lo b hb; simpa using this
 have hz2 : w.heap.size + 1 + 1 < w2.heap.size := by have := b1.size; simp at this; omega
 clear hz
 have hz := hz2
 clear hz2
 have DJ0_1 : Hid (∀ b, b ∈ fq0 -> b ∉ fq1) := Lib.hid (fun b hb hb2 => by have := LT0.out b hb; have := hlo1 b hb2; omega)
 have hsm : Same (fq0) w1 (w1.setCell ⟨w.heap.size + 1 + 1, 0, none⟩ (.slice a0 l0 k0)) := fun b hb => by have := L0.out b hb; rw [Below.heap_setCell _ _ _ _ (by simp; omega)]
 have ht : ∀ b, b ∈ fq0 -> b < (w1.setCell ⟨w.heap.size + 1 + 1, 0, none⟩ (.slice a0 l0 k0)).heap.size := fun b hb => by have := LT0.out b hb; simp; omega
 have hf : Free (fq0) w2 := (Free.same (w' := (w1.setCell ⟨w.heap.size + 1 + 1, 0, none⟩ (.slice a0 l0 k0))) FR0.out hsm).below ht b1
 have hl : ∀ b, b ∈ fq0 -> b < w2.heap.size := fun b hb => by have := ht b hb; have := b1.size; omega
 clear FR0 LT0 ht
 have FR0 := Lib.hid hf
 have LT0 := Lib.hid hl
 clear hf hl
 have r0' := (r0.same mrR_fits (w' := (w1.setCell ⟨w.heap.size + 1 + 1, 0, none⟩ (.slice a0 l0 k0))) (hsm.mono (fun b hb => by simp [hb])) (by simp)).below mrR_fits b1
 clear r0
 have r0 := r0'
 clear r0'
 clear hsm
 have L1 : Hid (∀ b, b ∈ fq1 -> w.heap.size + 1 + 1 < b) := Lib.hid (fun b hb => by have := hlo1 b hb; have := Z1.out; omega)
 have D2 := Lib.hid (hB.setCell (p := ⟨w.heap.size + 1 + 1, 1, none⟩) (by simp; omega) (.slice a1 l1 k1))
 have Z2 := Lib.hid hz
 have ON1 := Lib.hid n1.once
 have FR1 := Lib.hid n1.free
 have LT1 : Hid (∀ b, b ∈ fq1 -> b < w2.heap.size) := Lib.hid (r1.lt intR_fits)
 have HR0 := Lib.hid r0
 have HR1 := Lib.hid r1
 have HhB := Lib.hid hB
 have Hz := Lib.hid hz
 clear r0 r1 n1 b1 hB hlo1 hz
 go_wp2_with fail
 have r0 := HR0.out
 have r1 := HR1.out
 have hB := HhB.out
 have hz := Hz.out
 clear HhB Hz HR0 HR1
 refine (to_reqss _ x.progs fp2 (HS.out.2.2) _ (G2.out.below (slR_fits reqR_fits) D2.out)).mono ?_
 rintro e w3 ⟨v'2, fq2, rfl, r2, n2, b2⟩
 obtain ⟨a2, l2, k2, rfl⟩ := r2.form
 have X0' := keep_cell b2 ((World.cell?_setCell_other _ _ _ _ (by simp)).trans X0)
 have X1' := keep_cell b2 ((World.cell?_setCell_other _ _ _ _ (by simp)).trans X1)
 have X2' := keep_cell b2 ((World.cell?_setCell_other _ _ _ _ (by simp)).trans X2)
 have M0' := keep_cell b2 ((World.cell?_setCell_other _ _ _ _ (by simp)).trans M0)
 have M1' := keep_cell b2 ((World.cell?_setCell_other _ _ _ _ (by simp)).trans M1)
 have M2' := keep_cell b2 ((World.cell?_setCell_other _ _ _ _ (by simp)).trans M2)
 have O0' := keep_cell b2 ((World.cell?_setCell_other _ _ _ _ (by simp)).trans O0)
 have O1' := keep_cell b2 (World.cell?_setCell_same _ _ _ O1)
 have O2' := keep_cell b2 ((World.cell?_setCell_other _ _ _ _ (by simp)).trans O2)
 have f10' : w3.frozen? ⟨w.heap.size + 1, 0, none⟩ = false := keep_free b2 (by simp; omega) (by simpa using f10)
 have f11' : w3.frozen? ⟨w.heap.size + 1, 1, none⟩ = false := keep_free b2 (by simp; omega) (by simpa using f11)
 have f12' : w3.frozen? ⟨w.heap.size + 1, 2, none⟩ = false := keep_free b2 (by simp; omega) (by simpa using f12)
 have f20' : w3.frozen? ⟨w.heap.size + 1 + 1, 0, none⟩ = false := keep_free b2 (by simp; omega) (by simpa using f20)
 have f21' : w3.frozen? ⟨w.heap.size + 1 + 1, 1, none⟩ = false := keep_free b2 (by simp; omega) (by simpa using f21)
 have f22' : w3.frozen? ⟨w.heap.size + 1 + 1, 2, none⟩ = false := keep_free b2 (by simp; omega) (by simpa using f22)
 clear X0 M0 O0 f10 f20 X1 M1 O1 f11 f21 X2 M2 O2 f12 f22
 have X0 := X0'
 have X1 := X1'
 have X2 := X2'
 clear X0' X1' X2'
 have M0 := M0'
 have M1 := M1'
 have M2 := M2'
 clear M0' M1' M2'
 have O0 := O0'
 have O1 := O1'
 have O2 := O2'
 clear O0' O1' O2'
 have f10 := f10'
 have f11 := f11'
 have f12 := f12'
 clear f10' f11' f12'
 have f20 := f20'
 have f21 := f21'
 have f22 := f22'
 clear f20' f21' f22'
 have hB2 : Below w.heap.size w w3 := D2.out.trans (b2.mono (by have := D2.out.size; exact this))
 clear hB
 have hB := hB2
 clear hB2
 have hlo2 : ∀ b, b ∈ fq2 -> w2.heap.size <= b := fun b hb => by have := n2.lo b hb; simpa using this
 have hz2 : w.heap.size + 1 + 1 < w3.heap.size := by have := b2.size; simp at this; omega
 clear hz
 have hz := hz2
 clear hz2
 have DJ0_2 : Hid (∀ b, b ∈ fq0 -> b ∉ fq2) := Lib.hid (fun b hb hb2 => by have := LT0.out b hb; have := hlo2 b hb2; omega)
 have hsm : Same (fq0) w2 (w2.setCell ⟨w.heap.size + 1 + 1, 1, none⟩ (.slice a1 l1 k1)) := fun b hb => by have := L0.out b hb; rw [Below.heap_setCell _ _ _ _ (by simp; omega)]
 have ht : ∀ b, b ∈ fq0 -> b < (w2.setCell ⟨w.heap.size + 1 + 1, 1, none⟩ (.slice a1 l1 k1)).heap.size := fun b hb => by have := LT0.out b hb; simp; omega
 have hf : Free (fq0) w3 := (Free.same (w' := (w2.setCell ⟨w.heap.size + 1 + 1, 1, none⟩ (.slice a1 l1 k1))) FR0.out hsm).below ht b2
 have hl : ∀ b, b ∈ fq0 -> b < w3.heap.size := fun b hb => by have := ht b hb; have := b2.size; omega
 clear FR0 LT0 ht
 have FR0 := Lib.hid hf
 have LT0 := Lib.hid hl
 clear hf hl
 have r0' := (r0.same mrR_fits (w' := (w2.setCell ⟨w.heap.size + 1 + 1, 1, none⟩ (.slice a1 l1 k1))) (hsm.mono (fun b hb => by simp [hb])) (by simp)).below mrR_fits b2
 clear r0
 have r0 := r0'
 clear r0'
 clear hsm
 have DJ1_2 : Hid (∀ b, b ∈ fq1 -> b ∉ fq2) := Lib.hid (fun b hb hb2 => by have := LT1.out b hb; have := hlo2 b hb2; omega)
 have hsm : Same (fq1) w2 (w2.setCell ⟨w.heap.size + 1 + 1, 1, none⟩ (.slice a1 l1 k1)) := fun b hb => by have := L1.out b hb; rw [Below.heap_setCell _ _ _ _ (by simp; omega)]
 have ht : ∀ b, b ∈ fq1 -> b < (w2.setCell ⟨w.heap.size + 1 + 1, 1, none⟩ (.slice a1 l1 k1)).heap.size := fun b hb => by have := LT1.out b hb; simp; omega
 have hf : Free (fq1) w3 := (Free.same (w' := (w2.setCell ⟨w.heap.size + 1 + 1, 1, none⟩ (.slice a1 l1 k1))) FR1.out hsm).below ht b2
 have hl : ∀ b, b ∈ fq1 -> b < w3.heap.size := fun b hb => by have := ht b hb; have := b2.size; omega
 clear FR1 LT1 ht
 have FR1 := Lib.hid hf
 have LT1 := Lib.hid hl
 clear hf hl
 have r1' := (r1.same intR_fits (w' := (w2.setCell ⟨w.heap.size + 1 + 1, 1, none⟩ (.slice a1 l1 k1))) (hsm.mono (fun b hb => by simp [hb])) (by simp)).below intR_fits b2
 clear r1
 have r1 := r1'
 clear r1'
 clear hsm
 have L2 : Hid (∀ b, b ∈ fq2 -> w.heap.size + 1 + 1 < b) := Lib.hid (fun b hb => by have := hlo2 b hb; have := Z2.out; omega)
 have D3 := Lib.hid (hB.setCell (p := ⟨w.heap.size + 1 + 1, 2, none⟩) (by simp; omega) (.slice a2 l2 k2))
 have Z3 := Lib.hid hz
 have ON2 := Lib.hid n2.once
 have FR2 := Lib.hid n2.free
 have LT2 : Hid (∀ b, b ∈ fq2 -> b < w3.heap.size) := Lib.hid (r2.lt (slR_fits reqR_fits))
 have HR0 := Lib.hid r0
 have HR1 := Lib.hid r1
 have HR2 := Lib.hid r2
 have HhB := Lib.hid hB
 have Hz := Lib.hid hz
 clear r0 r1 r2 n2 b2 hB hlo2 hz X0 X1 X2
 go_wp2
 have hsame : ∀ (fq : List Nat), (∀ b, b ∈ fq -> w.heap.size + 1 + 1 < b) -> ∀ {s0 t0 t1 t2 : Value}, Same fq w3 ((((w3.setCell ⟨w.heap.size + 1 + 1, 2, none⟩ s0).setCell ⟨w.heap.size + 1, 0, none⟩ t0).setCell ⟨w.heap.size + 1, 1, none⟩ t1).setCell ⟨w.heap.size + 1, 2, none⟩ t2) := fun fq hq => by
  intro s0 t0 t1 t2 b hb
  have := hq b hb
  rw [Below.heap_setCell _ _ _ _ (by simp; omega), Below.heap_setCell _ _ _ _ (by simp; omega), Below.heap_setCell _ _ _ _ (by simp; omega), Below.heap_setCell _ _ _ _ (by simp; omega)]
 have HL : ∀ b, b ∈ fq0 ++ fq1 ++ fq2 -> w.heap.size + 1 + 1 < b := (all_app (T := fun b => w.heap.size + 1 + 1 < b) (all_app (T := fun b => w.heap.size + 1 + 1 < b) L0.out L1.out) L2.out)
 exact bodyPost_ret (v := .agg #[.slice a0 l0 k0, .slice a1 l1 k1, .slice a2 l2 k2]) (by simp [results, Tryz.results7, go_sem, M0, M1, M2]) rfl
  ⟨_, fq0, _, fq1, _, fq2, rfl, HR0.out.same mrR_fits (hsame _ (fun b hb => L0.out b (by simp [hb]))) (by simp), HR1.out.same intR_fits (hsame _ (fun b hb => L1.out b (by simp [hb]))) (by simp), HR2.out.same (slR_fits reqR_fits) (hsame _ (fun b hb => L2.out b (by simp [hb]))) (by simp), ⟨fun b hb => by have := HL b (by simpa using hb); omega, by simpa using (nodup_app (nodup_app ON0.out ON1.out DJ0_1.out) ON2.out (all_app (T := fun b => b ∉ fq2) DJ0_2.out DJ1_2.out)), fun b hb => ((Free.app (Free.app FR0.out FR1.out) FR2.out).same (hsame _ HL)) b (by simpa using hb)⟩, ((((HhB.out.setCell (by simp; omega) _).setCell (by simp) _).setCell (by simp) _).setCell (by simp) _)⟩
end Go.Proofs.YtaeiddoccfaheaaGreat
