/-
  eqCycIn, markCycIn, heldCycIn, in the one form.
-/
import Derived.Test.YtlamjbcacminmaaProg
import Derived.Test.YtlamjbcacminmaaBase
import Derived.Test.YtlamjbcacminmaaIn
import Derived.Test.YtlamjbcacminmaaRow
import Derived.Test.YtlamjbcacminmaaBoolMark
import Derived.OwnWalk
import Derived.KernelRfl
import Derived.WalkSmall
namespace Go.Proofs.Ytlamjbcacminmaa
set_option linter.unusedVariables false
set_option linter.unusedSimpArgs false
open Go.RowKit Go.ChangeShapes

def sm_In (x : CycIn) : Prop := sm_bools x.ready ∧ sm_bools x.stall ∧ sm_bools x.send

set_option maxRecDepth 100000 in
set_option maxHeartbeats 3200000 in
theorem eq_In (x y : CycIn) (v0 v1 v2 u0 u1 u2 : Value) (fp0 fp1 fp2 fq0 fq1 fq2 : List Nat) (w : World) (g0 : SlR 1 boolR w x.ready v0 fp0) (g1 : SlR 1 boolR w x.stall v1 fp1) (g2 : SlR 1 boolR w x.send v2 fp2) (k0 : SlR 1 boolR w y.ready u0 fq0) (k1 : SlR 1 boolR w y.stall u1 fq1) (k2 : SlR 1 boolR w y.send u2 fq2) :
    Calls Try.prog 46 #[.agg #[v0, v1, v2], .agg #[u0, u1, u2]] w fun e w' => e = .returned (.bool (decide (x = y))) ∧ Below w.heap.size w w' := by
  have hb : Below w.heap.size w ((w.alloc (.cells #[v0, v1, v2] 57)).alloc (.cells #[u0, u1, u2] 57)) := ((Below.refl _ _).alloc (Nat.le_refl _) _).alloc (by simp) _
  have G0 := Lib.hid (SlR.below boolR_fits g0 hb)
  have K0 := Lib.hid (SlR.below boolR_fits k0 hb)
  have G1 := Lib.hid (SlR.below boolR_fits g1 hb)
  have K1 := Lib.hid (SlR.below boolR_fits k1 hb)
  have G2 := Lib.hid (SlR.below boolR_fits g2 hb)
  have K2 := Lib.hid (SlR.below boolR_fits k2 hb)
  have B := Lib.hid hb
  have HD := Lib.hid (show decide (x = y) = (decide (x.ready = y.ready) && decide (x.stall = y.stall) && decide (x.send = y.send)) by cases x; cases y; simp [Bool.and_assoc])
  clear hb g0 k0 g1 k1 g2 k2
  go_enter Try.func46, Try.ntmps46
  go_wp2_with fail
  refine (eq_bools _ _ x.ready y.ready fp0 fq0 _ G0.out K0.out).mono ?_
  rintro e w1 ⟨rfl, b⟩
  have X1 := keep_cell b (alloc2_old w _ _ _ _ 1 rfl)
  have X2 := keep_cell b (alloc2_old w _ _ _ _ 2 rfl)
  have Y1 := keep_cell b (alloc2_new w _ _ _ _ 1 rfl)
  have Y2 := keep_cell b (alloc2_new w _ _ _ _ 2 rfl)
  replace G1 := Lib.hid (SlR.below boolR_fits G1.out b)
  replace K1 := Lib.hid (SlR.below boolR_fits K1.out b)
  replace G2 := Lib.hid (SlR.below boolR_fits G2.out b)
  replace K2 := Lib.hid (SlR.below boolR_fits K2.out b)
  replace B := Lib.hid (B.out.trans (b.mono B.out.size))
  clear b G0 K0
  cases e0 : decide (x.ready = y.ready)
  case' false =>
    have E0 := Lib.hid e0
    clear e0 X1 Y1 X2 Y2
    go_wp2
    go_ret
    exact ⟨ret_bool (by rw [HD.out, E0.out]; simp), B.out⟩
  have E0 := Lib.hid e0
  clear e0
  go_wp2_with fail
  refine (eq_bools _ _ x.stall y.stall fp1 fq1 _ G1.out K1.out).mono ?_
  rintro e w2 ⟨rfl, b⟩
  replace X2 := keep_cell b X2
  replace Y2 := keep_cell b Y2
  replace G2 := Lib.hid (SlR.below boolR_fits G2.out b)
  replace K2 := Lib.hid (SlR.below boolR_fits K2.out b)
  replace B := Lib.hid (B.out.trans (b.mono B.out.size))
  clear b G1 K1
  cases e1 : decide (x.stall = y.stall)
  case' false =>
    have E1 := Lib.hid e1
    clear e1 X2 Y2
    go_wp2
    go_ret
    exact ⟨ret_bool (by rw [HD.out, E0.out, E1.out]; simp), B.out⟩
  have E1 := Lib.hid e1
  clear e1
  go_wp2_with fail
  refine (eq_bools _ _ x.send y.send fp2 fq2 _ G2.out K2.out).mono ?_
  rintro e w3 ⟨rfl, b⟩
  replace B := Lib.hid (B.out.trans (b.mono B.out.size))
  clear b G2 K2
  cases e2 : decide (x.send = y.send)
  case' false =>
    have E2 := Lib.hid e2
    clear e2 
    go_wp2
    go_ret
    exact ⟨ret_bool (by rw [HD.out, E0.out, E1.out, E2.out]; simp), B.out⟩
  have E2 := Lib.hid e2
  clear e2
  go_wp2
  go_ret
  exact ⟨ret_bool (by rw [HD.out,E0.out, E1.out, E2.out]; rfl), B.out⟩

def mk_In (k : Int) (x : CycIn) : CycIn := ⟨mk_bools (k) x.ready, mk_bools (k + cnt_bools x.ready) x.stall, mk_bools (k + cnt_bools x.ready + cnt_bools x.stall) x.send⟩
def cnt_In (x : CycIn) : Int := cnt_bools x.ready + cnt_bools x.stall + cnt_bools x.send
theorem cnt_In_in {x : CycIn} (h : sm_In x) : 0 ≤ cnt_In x ∧ cnt_In x ≤ 3145728 := by unfold cnt_In; have h0 := cnt_bools_in h.1; have h1 := cnt_bools_in h.2.1; have h2 := cnt_bools_in h.2.2; omega

set_option maxRecDepth 100000 in
set_option maxHeartbeats 3200000 in
theorem mark_In (x : CycIn) (v0 v1 v2 : Value) (fp0 fp1 fp2 : List Nat) (k : Int) (h0 : 0 ≤ k) (h1 : k ≤ 4503599627370496) (hs : sm_In x) (w : World) (g0 : SlR 1 boolR w x.ready v0 fp0) (g1 : SlR 1 boolR w x.stall v1 fp1) (g2 : SlR 1 boolR w x.send v2 fp2) (f : Free (fp0 ++ fp1 ++ fp2) w) (hd : (fp0 ++ fp1 ++ fp2).Nodup) :
    Calls Try.prog 47 #[.agg #[v0, v1, v2], .int .i64 k] w fun e w' => e = .returned (.int .i64 (k + cnt_In x)) ∧ SlR 1 boolR w' (mk_In k x).ready v0 fp0 ∧ SlR 1 boolR w' (mk_In k x).stall v1 fp1 ∧ SlR 1 boolR w' (mk_In k x).send v2 fp2 ∧ Chg (fp0 ++ fp1 ++ fp2) w w' ∧ Free (fp0 ++ fp1 ++ fp2) w' := by
  have HS := Lib.hid hs
  have hc0 := cnt_bools_in (hs.1)
  obtain ⟨c0, hcc0⟩ : ∃ c, c = cnt_bools x.ready := ⟨_, rfl⟩
  rw [← hcc0] at hc0
  have lc0 := hc0.1
  have uc0 := hc0.2
  have HC0 := Lib.hid hcc0
  clear hc0 hcc0
  have hc1 := cnt_bools_in (hs.2.1)
  obtain ⟨c1, hcc1⟩ : ∃ c, c = cnt_bools x.stall := ⟨_, rfl⟩
  rw [← hcc1] at hc1
  have lc1 := hc1.1
  have uc1 := hc1.2
  have HC1 := Lib.hid hcc1
  clear hc1 hcc1
  have hc2 := cnt_bools_in (hs.2.2)
  obtain ⟨c2, hcc2⟩ : ∃ c, c = cnt_bools x.send := ⟨_, rfl⟩
  rw [← hcc2] at hc2
  have lc2 := hc2.1
  have uc2 := hc2.2
  have HC2 := Lib.hid hcc2
  clear hc2 hcc2
  have D0_1 : Hid (∀ b, b ∈ fp0 → b ∉ fp1) := Lib.hid (fun b hb hb' => nodup_disj (nodup_left hd) b (by first | (simp [hb]; done) | (simp only [List.mem_append] at hb ⊢; rcases hb with hb | hb <;> simp [hb])) hb')
  have D0_2 : Hid (∀ b, b ∈ fp0 → b ∉ fp2) := Lib.hid (fun b hb hb' => nodup_disj hd b (by first | (simp [hb]; done) | (simp only [List.mem_append] at hb ⊢; rcases hb with hb | hb <;> simp [hb])) hb')
  have D1_2 : Hid (∀ b, b ∈ fp1 → b ∉ fp2) := Lib.hid (fun b hb hb' => nodup_disj hd b (by first | (simp [hb]; done) | (simp only [List.mem_append] at hb ⊢; rcases hb with hb | hb <;> simp [hb])) hb')
  have L0 : Hid (∀ b, b ∈ fp0 → b < w.heap.size) := Lib.hid (g0.lt boolR_fits)
  have L1 : Hid (∀ b, b ∈ fp1 → b < w.heap.size) := Lib.hid (g1.lt boolR_fits)
  have L2 : Hid (∀ b, b ∈ fp2 → b < w.heap.size) := Lib.hid (g2.lt boolR_fits)
  have hb := below_alloc w (.cells #[v0, v1, v2] 57)
  have G0 := Lib.hid (SlR.below boolR_fits g0 hb)
  have G1 := Lib.hid (SlR.below boolR_fits g1 hb)
  have G2 := Lib.hid (SlR.below boolR_fits g2 hb)
  have F0 := Lib.hid (Free.below (fp := fp0) (fun b hb => f b (by first | (simp [hb]; done) | (simp only [List.mem_append] at hb ⊢; rcases hb with hb | hb <;> simp [hb]))) L0.out hb)
  have F1 := Lib.hid (Free.below (fp := fp1) (fun b hb => f b (by first | (simp [hb]; done) | (simp only [List.mem_append] at hb ⊢; rcases hb with hb | hb <;> simp [hb]))) L1.out hb)
  have F2 := Lib.hid (Free.below (fp := fp2) (fun b hb => f b (by first | (simp [hb]; done) | (simp only [List.mem_append] at hb ⊢; rcases hb with hb | hb <;> simp [hb]))) L2.out hb)
  have M0 : Hid (∀ b, b ∈ fp0 → b < (w.alloc (.cells #[v0, v1, v2] 57)).heap.size) := Lib.hid (fun b hb => by have := L0.out b hb; simp; omega)
  have M1 : Hid (∀ b, b ∈ fp1 → b < (w.alloc (.cells #[v0, v1, v2] 57)).heap.size) := Lib.hid (fun b hb => by have := L1.out b hb; simp; omega)
  have M2 : Hid (∀ b, b ∈ fp2 → b < (w.alloc (.cells #[v0, v1, v2] 57)).heap.size) := Lib.hid (fun b hb => by have := L2.out b hb; simp; omega)
  have N0 : Hid (∀ b, b ∈ fp0 → w.heap.size ≠ b) := Lib.hid (fun b hb => by have := L0.out b hb; omega)
  have N1 : Hid (∀ b, b ∈ fp1 → w.heap.size ≠ b) := Lib.hid (fun b hb => by have := L1.out b hb; omega)
  have N2 : Hid (∀ b, b ∈ fp2 → w.heap.size ≠ b) := Lib.hid (fun b hb => by have := L2.out b hb; omega)
  have K := Lib.hid (hb.chg (fp0 ++ fp1 ++ fp2))
  clear hb f hs hd g0 g1 g2
  go_enter Try.func47, Try.ntmps47
  go_wp2_with fail
  refine (mark_bools _ x.ready fp0 k (by omega) (by omega) (HS.out.1) _ G0.out F0.out).mono ?_
  rw [← HC0.out]
  rintro e w1 ⟨rfl, m0, c, fr⟩
  have X1 := keep_cell_chg c (alloc1_new w _ _ 1 rfl) (fun h => N0.out _ h rfl)
  have X2 := keep_cell_chg c (alloc1_new w _ _ 2 rfl) (fun h => N0.out _ h rfl)
  replace G1 := Lib.hid (SlR.chg boolR_fits G1.out c (fun b hb hb' => D0_1.out b hb' hb))
  replace F1 := Lib.hid (Free.chg F1.out M1.out c (fun b hb hb' => D0_1.out b hb' hb))
  replace G2 := Lib.hid (SlR.chg boolR_fits G2.out c (fun b hb hb' => D0_2.out b hb' hb))
  replace F2 := Lib.hid (Free.chg F2.out M2.out c (fun b hb hb' => D0_2.out b hb' hb))
  replace G0 := Lib.hid m0
  replace F0 := Lib.hid fr
  replace K := Lib.hid (K.out.trans' (c.mono (fun b hb => by first | (simp [hb]; done) | (simp only [List.mem_append] at hb ⊢; rcases hb with hb | hb <;> simp [hb]))))
  replace M0 := Lib.hid (fun b hb => Nat.lt_of_lt_of_le (M0.out b hb) c.size)
  replace M1 := Lib.hid (fun b hb => Nat.lt_of_lt_of_le (M1.out b hb) c.size)
  replace M2 := Lib.hid (fun b hb => Nat.lt_of_lt_of_le (M2.out b hb) c.size)
  clear c fr m0
  go_wp2_with fail
  refine (mark_bools _ x.stall fp1 (k + c0) (by omega) (by omega) (HS.out.2.1) _ G1.out F1.out).mono ?_
  rw [← HC1.out]
  rintro e w2 ⟨rfl, m1, c, fr⟩
  replace X2 := keep_cell_chg c X2 (fun h => N1.out _ h rfl)
  replace G0 := Lib.hid (SlR.chg boolR_fits G0.out c D0_1.out)
  replace F0 := Lib.hid (Free.chg F0.out M0.out c D0_1.out)
  replace G2 := Lib.hid (SlR.chg boolR_fits G2.out c (fun b hb hb' => D1_2.out b hb' hb))
  replace F2 := Lib.hid (Free.chg F2.out M2.out c (fun b hb hb' => D1_2.out b hb' hb))
  replace G1 := Lib.hid m1
  replace F1 := Lib.hid fr
  replace K := Lib.hid (K.out.trans' (c.mono (fun b hb => by first | (simp [hb]; done) | (simp only [List.mem_append] at hb ⊢; rcases hb with hb | hb <;> simp [hb]))))
  replace M0 := Lib.hid (fun b hb => Nat.lt_of_lt_of_le (M0.out b hb) c.size)
  replace M1 := Lib.hid (fun b hb => Nat.lt_of_lt_of_le (M1.out b hb) c.size)
  replace M2 := Lib.hid (fun b hb => Nat.lt_of_lt_of_le (M2.out b hb) c.size)
  clear c fr m1
  go_wp2_with fail
  refine (mark_bools _ x.send fp2 ((k + c0) + c1) (by omega) (by omega) (HS.out.2.2) _ G2.out F2.out).mono ?_
  rw [← HC2.out]
  rintro e w3 ⟨rfl, m2, c, fr⟩
  replace G0 := Lib.hid (SlR.chg boolR_fits G0.out c D0_2.out)
  replace F0 := Lib.hid (Free.chg F0.out M0.out c D0_2.out)
  replace G1 := Lib.hid (SlR.chg boolR_fits G1.out c D1_2.out)
  replace F1 := Lib.hid (Free.chg F1.out M1.out c D1_2.out)
  replace G2 := Lib.hid m2
  replace F2 := Lib.hid fr
  replace K := Lib.hid (K.out.trans' (c.mono (fun b hb => by first | (simp [hb]; done) | (simp only [List.mem_append] at hb ⊢; rcases hb with hb | hb <;> simp [hb]))))
  replace M0 := Lib.hid (fun b hb => Nat.lt_of_lt_of_le (M0.out b hb) c.size)
  replace M1 := Lib.hid (fun b hb => Nat.lt_of_lt_of_le (M1.out b hb) c.size)
  replace M2 := Lib.hid (fun b hb => Nat.lt_of_lt_of_le (M2.out b hb) c.size)
  clear c fr m2
  go_wp2
  go_ret
  exact ⟨ret_int (by unfold cnt_In; rw [← HC0.out, ← HC1.out, ← HC2.out]; omega), G0.out, (by have h := G1.out; rw [HC0.out] at h; exact h), (by have h := G2.out; rw [HC0.out] at h; rw [HC1.out] at h; exact h), K.out, (by have h := (Free.app (Free.app F0.out F1.out) F2.out); simpa [List.append_assoc] using h)⟩

set_option maxRecDepth 100000 in
set_option maxHeartbeats 3200000 in
theorem held_In (x : CycIn) (v0 v1 v2 : Value) (fp0 fp1 fp2 : List Nat) (k : Int) (h0 : 0 ≤ k) (h1 : k ≤ 4503599627370496) (hs : sm_In x) (w : World) (g0 : SlR 1 boolR w (mk_In k x).ready v0 fp0) (g1 : SlR 1 boolR w (mk_In k x).stall v1 fp1) (g2 : SlR 1 boolR w (mk_In k x).send v2 fp2) :
    Calls Try.prog 48 #[.agg #[v0, v1, v2], .int .i64 k] w fun e w' => e = .returned (.int .i64 (k + cnt_In x)) ∧ Below w.heap.size w w' := by
  have HS := Lib.hid hs
  have hc0 := cnt_bools_in (hs.1)
  obtain ⟨c0, hcc0⟩ : ∃ c, c = cnt_bools x.ready := ⟨_, rfl⟩
  rw [← hcc0] at hc0
  have lc0 := hc0.1
  have uc0 := hc0.2
  have HC0 := Lib.hid hcc0
  clear hc0 hcc0
  have hc1 := cnt_bools_in (hs.2.1)
  obtain ⟨c1, hcc1⟩ : ∃ c, c = cnt_bools x.stall := ⟨_, rfl⟩
  rw [← hcc1] at hc1
  have lc1 := hc1.1
  have uc1 := hc1.2
  have HC1 := Lib.hid hcc1
  clear hc1 hcc1
  have hc2 := cnt_bools_in (hs.2.2)
  obtain ⟨c2, hcc2⟩ : ∃ c, c = cnt_bools x.send := ⟨_, rfl⟩
  rw [← hcc2] at hc2
  have lc2 := hc2.1
  have uc2 := hc2.2
  have HC2 := Lib.hid hcc2
  clear hc2 hcc2
  have hb := below_alloc w (.cells #[v0, v1, v2] 57)
  have G0 : Hid (SlR 1 boolR (w.alloc (.cells #[v0, v1, v2] 57)) (mk_bools (k) x.ready) v0 fp0) := Lib.hid (by have h := SlR.below boolR_fits g0 hb; exact h)
  have G1 : Hid (SlR 1 boolR (w.alloc (.cells #[v0, v1, v2] 57)) (mk_bools (k + c0) x.stall) v1 fp1) := Lib.hid (by have h := SlR.below boolR_fits g1 hb; rw [HC0.out]; exact h)
  have G2 : Hid (SlR 1 boolR (w.alloc (.cells #[v0, v1, v2] 57)) (mk_bools (k + c0 + c1) x.send) v2 fp2) := Lib.hid (by have h := SlR.below boolR_fits g2 hb; rw [HC0.out]; rw [HC1.out]; exact h)
  have B := Lib.hid hb
  clear hb hs g0 g1 g2
  go_enter Try.func48, Try.ntmps48
  go_wp2_with fail
  refine (held_bools _ x.ready fp0 (k) (by omega) (by omega) (HS.out.1) _ G0.out).mono ?_
  rw [← HC0.out]
  rintro e w1 ⟨rfl, b⟩
  have X1 := keep_cell b (alloc1_new w _ _ 1 rfl)
  have X2 := keep_cell b (alloc1_new w _ _ 2 rfl)
  replace G1 := Lib.hid (SlR.below boolR_fits G1.out b)
  replace G2 := Lib.hid (SlR.below boolR_fits G2.out b)
  replace B := Lib.hid (B.out.trans (b.mono B.out.size))
  clear b
  have p0 : 0 ≤ k + c0 := by omega
  have d0 : decide (k + c0 < 0) = false := decide_eq_false (by omega)
  go_wp2_with fail
  refine (held_bools _ x.stall fp1 (k + c0) (by omega) (by omega) (HS.out.2.1) _ G1.out).mono ?_
  rw [← HC1.out]
  rintro e w2 ⟨rfl, b⟩
  replace X2 := keep_cell b X2
  replace G2 := Lib.hid (SlR.below boolR_fits G2.out b)
  replace B := Lib.hid (B.out.trans (b.mono B.out.size))
  clear b
  have p1 : 0 ≤ k + c0 + c1 := by omega
  have d1 : decide (k + c0 + c1 < 0) = false := decide_eq_false (by omega)
  go_wp2_with fail
  refine (held_bools _ x.send fp2 (k + c0 + c1) (by omega) (by omega) (HS.out.2.2) _ G2.out).mono ?_
  rw [← HC2.out]
  rintro e w3 ⟨rfl, b⟩
  replace B := Lib.hid (B.out.trans (b.mono B.out.size))
  clear b
  have p2 : 0 ≤ k + c0 + c1 + c2 := by omega
  have d2 : decide (k + c0 + c1 + c2 < 0) = false := decide_eq_false (by omega)
  go_wp2
  go_ret
  exact ⟨ret_int (by unfold cnt_In; rw [← HC0.out, ← HC1.out, ← HC2.out]; omega), B.out⟩


end Go.Proofs.Ytlamjbcacminmaa
