/-
  What comes from outside: szCycIn, toCycIn, eqCycIn, InOk (both).
-/
import Derived.Test.YtmnjoogaiokhkaaProg
import Derived.Test.YtmnjoogaiokhkaaBase
import Derived.Test.YtmnjoogaiokhkaaInts
import Derived.Test.YtmnjoogaiokhkaaInts2
import Derived.Test.YtmnjoogaiokhkaaBools
import Derived.Test.YtmnjoogaiokhkaaNew
import Derived.KernelRfl
import Derived.WalkSmall
namespace Go.Proofs.Ytmnjoogaiokhkaa
set_option linter.unusedVariables false
open Go.RowKit Go.ChangeShapes

structure CycIn where
  ready : List Bool
  stall : List Bool
  send : List Bool
  deriving DecidableEq

def cycInR : Pr CycIn := fun w x cs fp => ∃ (v0 v1 v2 : Value) (fp0 fp1 fp2 : List Nat), cs = [v0, v1, v2] ∧ fp = fp0 ++ fp1 ++ fp2 ∧ SlR 1 boolR w x.ready v0 fp0 ∧ SlR 1 boolR w x.stall v1 fp1 ∧ SlR 1 boolR w x.send v2 fp2

theorem opens_cycIn : Opens Try.prog 41 cycInR := fun {H enc w fuel cs x} h => by
  obtain ⟨xs, n, _, _, hl, hx, hf⟩ := DataW.trod_struct Try.underlying41 h
  have hk : Try.prog.cellsOf 41 = 3 := by kernel_rfl
  have k2 : Try.prog.cellsOf 39 = 1 := by kernel_rfl
  have ob : Opens Try.prog 39 (slR 1 boolR) := opens_slice Try.underlying39 (by kernel_rfl) (by decide) (opens_bool Try.underlying4) boolR_fits
  rw [hk] at hl
  have hx' : xs.length = 3 := hx
  match cs, hl with
  | [c0, c1, c2], _ =>
    obtain ⟨l0, fp0, v0, hv0, hs0⟩ := ob ((hf 0 _ rfl).trans (List.getElem?_eq_getElem (by omega)))
    obtain ⟨l1, fp1, v1, hv1, hs1⟩ := ob ((hf 1 _ rfl).trans (List.getElem?_eq_getElem (by omega)))
    obtain ⟨l2, fp2, v2, hv2, hs2⟩ := ob ((hf 2 _ rfl).trans (List.getElem?_eq_getElem (by omega)))
    simp [k2] at hv0 hv1 hv2
    subst hv0 hv1 hv2
    exact ⟨⟨l0, l1, l2⟩, _, c0, c1, c2, fp0, fp1, fp2, rfl, rfl, hs0, hs1, hs2⟩

def szIn (left : Int) (x : CycIn) : Int := szR left (x.ready.length + x.stall.length + x.send.length)
theorem szIn_neg {x : CycIn} (h : szIn 1048576 x < 0) : szIn 1048576 x = -1 := szR_neg h
theorem szIn_ok {x : CycIn} (h : 0 ≤ szIn 1048576 x) : x.ready.length + x.stall.length + x.send.length ≤ 1048576 := by unfold szIn szR at h; split at h <;> omega

set_option maxRecDepth 100000 in
set_option maxHeartbeats 3200000 in
theorem szIn_any (x : CycIn) (v0 v1 v2 : Value) (fp0 fp1 fp2 : List Nat) (left : Int) (h0 : 0 ≤ left) (h1 : left ≤ 1048576) (w : World) (g0 : SlR 1 boolR w x.ready v0 fp0) (g1 : SlR 1 boolR w x.stall v1 fp1) (g2 : SlR 1 boolR w x.send v2 fp2) :
    Calls Try.prog 28 #[.agg #[v0, v1, v2], .int .i64 left] w fun e w' => e = .returned (.int .i64 (szIn left x)) ∧ Below w.heap.size w w' := by
  have hb := below_alloc w (.cells #[v0, v1, v2] 41)
  have G0 := Lib.hid (SlR.below boolR_fits g0 hb)
  have G1 := Lib.hid (SlR.below boolR_fits g1 hb)
  have G2 := Lib.hid (SlR.below boolR_fits g2 hb)
  have HB := Lib.hid hb
  obtain ⟨T, hT⟩ : ∃ T, T = x.ready.length + x.stall.length + x.send.length := ⟨_, rfl⟩
  have HT : Hid (∀ z, szR left T = z → szIn left x = z) := Lib.hid (fun z h => by unfold szIn; rw [← hT]; exact h)
  clear hb g0 g1 g2
  obtain ⟨m0, hm0⟩ : ∃ q : Nat, x.ready.length = q := ⟨_, rfl⟩
  obtain ⟨m1, hm1⟩ : ∃ q : Nat, x.stall.length = q := ⟨_, rfl⟩
  obtain ⟨m2, hm2⟩ : ∃ q : Nat, x.send.length = q := ⟨_, rfl⟩
  rw [hm0, hm1, hm2] at hT
  have M0 := Lib.hid hm0
  have M1 := Lib.hid hm1
  have M2 := Lib.hid hm2
  have HS := Lib.hid hT
  clear hT hm0 hm1 hm2
  by_cases c0 : left < (m0 : Int)
  · have hQ0 : szR left m0 = -1 := by unfold szR; rw [if_pos (by omega)]
    have Q0 := Lib.hid hQ0
    have C0 := Lib.hid c0
    clear hQ0 c0
    go_enter Try.func28, Try.ntmps28
    go_wp2_with fail
    refine (szBoolS_any v0 x.ready fp0 left (by omega) (by omega) _ G0.out).mono ?_
    rw [M0.out, Q0.out]
    rintro e w' ⟨rfl, rfl⟩
    go_wp2
    go_ret
    exact ⟨ret_int (HT.out _ (by  have := C0.out; have := HS.out; unfold szR; rw [if_pos (by omega)])).symm, HB.out⟩
  · obtain ⟨z0, hz0⟩ : ∃ z, z = left - (m0 : Int) := ⟨_, rfl⟩
    have hQ0 : szR left m0 = z0 := by unfold szR; rw [if_neg (by omega)]; exact hz0.symm
    have Q0 := Lib.hid hQ0
    have lo0 : 0 ≤ z0 := by omega
    have hi0 : z0 ≤ 1048576 := by omega
    have C0 := Lib.hid c0
    have HZ0 := Lib.hid hz0
    clear hQ0 c0 hz0
    have d0 : decide (z0 < 0) = false := decide_eq_false (by omega)
    by_cases c1 : z0 < (m1 : Int)
    · have hQ1 : szR z0 m1 = -1 := by unfold szR; rw [if_pos (by omega)]
      have Q1 := Lib.hid hQ1
      have C1 := Lib.hid c1
      clear hQ1 c1
      go_enter Try.func28, Try.ntmps28
      go_wp2_with fail
      refine (szBoolS_any v0 x.ready fp0 left (by omega) (by omega) _ G0.out).mono ?_
      rw [M0.out, Q0.out]
      rintro e w' ⟨rfl, rfl⟩
      go_wp2_with fail
      refine (szBoolS_any v1 x.stall fp1 z0 (by omega) (by omega) _ G1.out).mono ?_
      rw [M1.out, Q1.out]
      rintro e w' ⟨rfl, rfl⟩
      go_wp2
      go_ret
      exact ⟨ret_int (HT.out _ (by have := HZ0.out; have := C0.out; have := C1.out; have := HS.out; unfold szR; rw [if_pos (by omega)])).symm, HB.out⟩
    · obtain ⟨z1, hz1⟩ : ∃ z, z = z0 - (m1 : Int) := ⟨_, rfl⟩
      have hQ1 : szR z0 m1 = z1 := by unfold szR; rw [if_neg (by omega)]; exact hz1.symm
      have Q1 := Lib.hid hQ1
      have lo1 : 0 ≤ z1 := by omega
      have hi1 : z1 ≤ 1048576 := by omega
      have C1 := Lib.hid c1
      have HZ1 := Lib.hid hz1
      clear hQ1 c1 hz1
      have d1 : decide (z1 < 0) = false := decide_eq_false (by omega)
      by_cases c2 : z1 < (m2 : Int)
      · have hQ2 : szR z1 m2 = -1 := by unfold szR; rw [if_pos (by omega)]
        have Q2 := Lib.hid hQ2
        have C2 := Lib.hid c2
        clear hQ2 c2
        go_enter Try.func28, Try.ntmps28
        go_wp2_with fail
        refine (szBoolS_any v0 x.ready fp0 left (by omega) (by omega) _ G0.out).mono ?_
        rw [M0.out, Q0.out]
        rintro e w' ⟨rfl, rfl⟩
        go_wp2_with fail
        refine (szBoolS_any v1 x.stall fp1 z0 (by omega) (by omega) _ G1.out).mono ?_
        rw [M1.out, Q1.out]
        rintro e w' ⟨rfl, rfl⟩
        go_wp2_with fail
        refine (szBoolS_any v2 x.send fp2 z1 (by omega) (by omega) _ G2.out).mono ?_
        rw [M2.out, Q2.out]
        rintro e w' ⟨rfl, rfl⟩
        go_wp2
        go_ret
        exact ⟨ret_int (HT.out _ (by have := HZ0.out; have := C0.out; have := HZ1.out; have := C1.out; have := C2.out; have := HS.out; unfold szR; rw [if_pos (by omega)])).symm, HB.out⟩
      · obtain ⟨z2, hz2⟩ : ∃ z, z = z1 - (m2 : Int) := ⟨_, rfl⟩
        have hQ2 : szR z1 m2 = z2 := by unfold szR; rw [if_neg (by omega)]; exact hz2.symm
        have Q2 := Lib.hid hQ2
        have lo2 : 0 ≤ z2 := by omega
        have hi2 : z2 ≤ 1048576 := by omega
        have C2 := Lib.hid c2
        have HZ2 := Lib.hid hz2
        clear hQ2 c2 hz2
        have d2 : decide (z2 < 0) = false := decide_eq_false (by omega)
        go_enter Try.func28, Try.ntmps28
        go_wp2_with fail
        refine (szBoolS_any v0 x.ready fp0 left (by omega) (by omega) _ G0.out).mono ?_
        rw [M0.out, Q0.out]
        rintro e w' ⟨rfl, rfl⟩
        go_wp2_with fail
        refine (szBoolS_any v1 x.stall fp1 z0 (by omega) (by omega) _ G1.out).mono ?_
        rw [M1.out, Q1.out]
        rintro e w' ⟨rfl, rfl⟩
        go_wp2_with fail
        refine (szBoolS_any v2 x.send fp2 z1 (by omega) (by omega) _ G2.out).mono ?_
        rw [M2.out, Q2.out]
        rintro e w' ⟨rfl, rfl⟩
        go_wp2
        go_ret
        exact ⟨ret_int (HT.out _ (by have := HZ0.out; have := C0.out; have := HZ1.out; have := C1.out; have := HZ2.out; have := C2.out; have := HS.out; unfold szR; rw [if_neg (by omega)]; omega)).symm, HB.out⟩

set_option maxRecDepth 100000 in
set_option maxHeartbeats 3200000 in
theorem eqIn_any (x y : CycIn) (v0 v1 v2 u0 u1 u2 : Value) (fp0 fp1 fp2 fq0 fq1 fq2 : List Nat) (w : World) (g0 : SlR 1 boolR w x.ready v0 fp0) (g1 : SlR 1 boolR w x.stall v1 fp1) (g2 : SlR 1 boolR w x.send v2 fp2) (k0 : SlR 1 boolR w y.ready u0 fq0) (k1 : SlR 1 boolR w y.stall u1 fq1) (k2 : SlR 1 boolR w y.send u2 fq2) :
    Calls Try.prog 32 #[.agg #[v0, v1, v2], .agg #[u0, u1, u2]] w fun e w' => e = .returned (.bool (decide (x = y))) ∧ Below w.heap.size w w' := by
  have hb : Below w.heap.size w ((w.alloc (.cells #[v0, v1, v2] 44)).alloc (.cells #[u0, u1, u2] 44)) := ((Below.refl _ _).alloc (Nat.le_refl _) _).alloc (by simp) _
  have G0 := Lib.hid (SlR.below boolR_fits g0 hb)
  have K0 := Lib.hid (SlR.below boolR_fits k0 hb)
  have G1 := Lib.hid (SlR.below boolR_fits g1 hb)
  have K1 := Lib.hid (SlR.below boolR_fits k1 hb)
  have G2 := Lib.hid (SlR.below boolR_fits g2 hb)
  have K2 := Lib.hid (SlR.below boolR_fits k2 hb)
  have B0 := Lib.hid hb
  have HD := Lib.hid (show decide (x = y) = (decide (x.ready = y.ready) && decide (x.stall = y.stall) && decide (x.send = y.send)) by cases x; cases y; simp [Bool.and_assoc])
  clear hb g0 k0 g1 k1 g2 k2
  cases e0 : decide (x.ready = y.ready)
  · have E0 := Lib.hid e0
    clear e0
    go_enter Try.func32, Try.ntmps32
    go_wp2_with fail
    refine (eqBoolS_any v0 u0 _ _ fp0 fq0 _ G0.out K0.out).mono ?_
    rw [E0.out]
    rintro e w' ⟨rfl, q0, rfl⟩
    have B1 := Lib.hid (below_drewN B0.out (q0))
    go_wp2
    go_ret
    exact ⟨ret_bool (by rw [HD.out, E0.out]; simp), B1.out⟩
  · have E0 := Lib.hid e0
    clear e0
    cases e1 : decide (x.stall = y.stall)
    · have E1 := Lib.hid e1
      clear e1
      go_enter Try.func32, Try.ntmps32
      go_wp2_with fail
      refine (eqBoolS_any v0 u0 _ _ fp0 fq0 _ G0.out K0.out).mono ?_
      rw [E0.out]
      rintro e w' ⟨rfl, q0, rfl⟩
      have B1 := Lib.hid (below_drewN B0.out (q0))
      go_wp2_with fail
      refine (eqBoolS_any v1 u1 _ _ fp1 fq1 _ (SlR.below boolR_fits G1.out (below_drewN (Below.refl _ _) (q0))) (SlR.below boolR_fits K1.out (below_drewN (Below.refl _ _) (q0)))).mono ?_
      rw [E1.out]
      rintro e w' ⟨rfl, q1, rfl⟩
      have B2 := Lib.hid (below_drewN B0.out (q0 + q1))
      go_wp2
      go_ret
      exact ⟨ret_bool (by rw [HD.out, E0.out, E1.out]; simp), B2.out⟩
    · have E1 := Lib.hid e1
      clear e1
      cases e2 : decide (x.send = y.send)
      · have E2 := Lib.hid e2
        clear e2
        go_enter Try.func32, Try.ntmps32
        go_wp2_with fail
        refine (eqBoolS_any v0 u0 _ _ fp0 fq0 _ G0.out K0.out).mono ?_
        rw [E0.out]
        rintro e w' ⟨rfl, q0, rfl⟩
        have B1 := Lib.hid (below_drewN B0.out (q0))
        go_wp2_with fail
        refine (eqBoolS_any v1 u1 _ _ fp1 fq1 _ (SlR.below boolR_fits G1.out (below_drewN (Below.refl _ _) (q0))) (SlR.below boolR_fits K1.out (below_drewN (Below.refl _ _) (q0)))).mono ?_
        rw [E1.out]
        rintro e w' ⟨rfl, q1, rfl⟩
        have B2 := Lib.hid (below_drewN B0.out (q0 + q1))
        go_wp2_with fail
        refine (eqBoolS_any v2 u2 _ _ fp2 fq2 _ (SlR.below boolR_fits G2.out (below_drewN (Below.refl _ _) (q0 + q1))) (SlR.below boolR_fits K2.out (below_drewN (Below.refl _ _) (q0 + q1)))).mono ?_
        rw [E2.out]
        rintro e w' ⟨rfl, q2, rfl⟩
        have B3 := Lib.hid (below_drewN B0.out (q0 + q1 + q2))
        go_wp2
        go_ret
        exact ⟨ret_bool (by rw [HD.out, E0.out, E1.out, E2.out]; simp), B3.out⟩
      · have E2 := Lib.hid e2
        clear e2
        go_enter Try.func32, Try.ntmps32
        go_wp2_with fail
        refine (eqBoolS_any v0 u0 _ _ fp0 fq0 _ G0.out K0.out).mono ?_
        rw [E0.out]
        rintro e w' ⟨rfl, q0, rfl⟩
        have B1 := Lib.hid (below_drewN B0.out (q0))
        go_wp2_with fail
        refine (eqBoolS_any v1 u1 _ _ fp1 fq1 _ (SlR.below boolR_fits G1.out (below_drewN (Below.refl _ _) (q0))) (SlR.below boolR_fits K1.out (below_drewN (Below.refl _ _) (q0)))).mono ?_
        rw [E1.out]
        rintro e w' ⟨rfl, q1, rfl⟩
        have B2 := Lib.hid (below_drewN B0.out (q0 + q1))
        go_wp2_with fail
        refine (eqBoolS_any v2 u2 _ _ fp2 fq2 _ (SlR.below boolR_fits G2.out (below_drewN (Below.refl _ _) (q0 + q1))) (SlR.below boolR_fits K2.out (below_drewN (Below.refl _ _) (q0 + q1)))).mono ?_
        rw [E2.out]
        rintro e w' ⟨rfl, q2, rfl⟩
        have B3 := Lib.hid (below_drewN B0.out (q0 + q1 + q2))
        go_wp2
        go_ret
        exact ⟨ret_bool (by rw [HD.out, E0.out, E1.out, E2.out]; rfl), B3.out⟩

set_option maxRecDepth 100000 in
set_option maxHeartbeats 3200000 in
theorem toIn_any (x : CycIn) (v0 v1 v2 : Value) (fp0 fp1 fp2 : List Nat) (hs : x.ready.length + x.stall.length + x.send.length ≤ 1048576) (w : World) (g0 : SlR 1 boolR w x.ready v0 fp0) (g1 : SlR 1 boolR w x.stall v1 fp1) (g2 : SlR 1 boolR w x.send v2 fp2) :
    Calls Try.prog 30 #[.agg #[v0, v1, v2]] w fun e w' => ∃ v'0 fq0 v'1 fq1 v'2 fq2, e = .returned (.agg #[v'0, v'1, v'2]) ∧ SlR 1 boolR w' x.ready v'0 fq0 ∧ SlR 1 boolR w' x.stall v'1 fq1 ∧ SlR 1 boolR w' x.send v'2 fq2 ∧ New (fq0 ++ fq1 ++ fq2) w w' ∧ Below w.heap.size w w' := by
  have G0 := Lib.hid g0
  have G1 := Lib.hid g1
  have G2 := Lib.hid g2
  clear g0 g1 g2
  go_enter Try.func30, Try.ntmps30
  go_wp2_with fail
  refine (toBoolS_any v0 x.ready fp0 (by omega) _ (G0.out.below boolR_fits (below3 w _ _ _))).mono ?_
  rintro e w1 ⟨v'0, fq0, rfl, r0, n0, b0⟩
  obtain ⟨a0, l0, k0, rfl⟩ := r0.form
  have X0 : w1.cell? ⟨w.heap.size, 0, none⟩ = some (v0) := keep_cell b0 (alloc_keep (alloc_keep (alloc1_new w _ _ 0 rfl) _) _)
  have X1 : w1.cell? ⟨w.heap.size, 1, none⟩ = some (v1) := keep_cell b0 (alloc_keep (alloc_keep (alloc1_new w _ _ 1 rfl) _) _)
  have X2 : w1.cell? ⟨w.heap.size, 2, none⟩ = some (v2) := keep_cell b0 (alloc_keep (alloc_keep (alloc1_new w _ _ 2 rfl) _) _)
  have M0 : w1.cell? ⟨w.heap.size + 1, 0, none⟩ = some (.slice none 0 0) := keep_cell b0 (alloc3_mid w _ _ _ _ _ 0 rfl)
  have M1 : w1.cell? ⟨w.heap.size + 1, 1, none⟩ = some (.slice none 0 0) := keep_cell b0 (alloc3_mid w _ _ _ _ _ 1 rfl)
  have M2 : w1.cell? ⟨w.heap.size + 1, 2, none⟩ = some (.slice none 0 0) := keep_cell b0 (alloc3_mid w _ _ _ _ _ 2 rfl)
  have O0 : w1.cell? ⟨w.heap.size + 1 + 1, 0, none⟩ = some (.slice none 0 0) := keep_cell b0 (alloc3_new w _ _ _ _ _ 0 rfl)
  have O1 : w1.cell? ⟨w.heap.size + 1 + 1, 1, none⟩ = some (.slice none 0 0) := keep_cell b0 (alloc3_new w _ _ _ _ _ 1 rfl)
  have O2 : w1.cell? ⟨w.heap.size + 1 + 1, 2, none⟩ = some (.slice none 0 0) := keep_cell b0 (alloc3_new w _ _ _ _ _ 2 rfl)
  have f10 := keep_free b0 (by simp) (alloc3_free w _ _ _ _ _ _ 0 (.inl rfl))
  have f11 := keep_free b0 (by simp) (alloc3_free w _ _ _ _ _ _ 1 (.inl rfl))
  have f12 := keep_free b0 (by simp) (alloc3_free w _ _ _ _ _ _ 2 (.inl rfl))
  have f20 := keep_free b0 (by simp) (alloc3_free w _ _ _ _ _ _ 0 (.inr rfl))
  have f21 := keep_free b0 (by simp) (alloc3_free w _ _ _ _ _ _ 1 (.inr rfl))
  have f22 := keep_free b0 (by simp) (alloc3_free w _ _ _ _ _ _ 2 (.inr rfl))
  have hB : Below w.heap.size w w1 := (below3 w _ _ _).trans (b0.mono (by simp; omega))
  have hlo0 : ∀ b, b ∈ fq0 → w.heap.size + 1 + 1 < b := fun b hb => by have := n0.lo b hb; simp at this; omega
  have hz : w.heap.size + 1 + 1 < w1.heap.size := by have := b0.size; simp at this; omega
  have L0 : Hid (∀ b, b ∈ fq0 → w.heap.size + 1 + 1 < b) := Lib.hid (fun b hb => by have := hlo0 b hb; omega)
  have D1 := Lib.hid (hB.setCell (p := ⟨w.heap.size + 1 + 1, 0, none⟩) (by simp; omega) (.slice a0 l0 k0))
  have Z1 := Lib.hid hz
  have ON0 := Lib.hid n0.once
  have FR0 := Lib.hid n0.free
  have LT0 : Hid (∀ b, b ∈ fq0 → b < w1.heap.size) := Lib.hid (r0.lt boolR_fits)
  have HR0 := Lib.hid r0
  have HN0 := Lib.hid n0
  have HBb0 := Lib.hid b0
  have HhB := Lib.hid hB
  have Hlo0 := Lib.hid hlo0
  have Hz := Lib.hid hz
  clear r0 n0 b0 hB hlo0 hz
  go_wp2_with fail
  have r0 := HR0.out
  have hB := HhB.out
  have hz := Hz.out
  clear HhB Hz HR0
  refine (toBoolS_any v1 x.stall fp1 (by omega) _ (G1.out.below boolR_fits D1.out)).mono ?_
  rintro e w2 ⟨v'1, fq1, rfl, r1, n1, b1⟩
  obtain ⟨a1, l1, k1, rfl⟩ := r1.form
  have X0' := keep_cell b1 ((World.cell?_setCell_other _ _ _ _ (by simp)).trans X0)
  have X1' := keep_cell b1 ((World.cell?_setCell_other _ _ _ _ (by simp)).trans X1)
  have X2' := keep_cell b1 ((World.cell?_setCell_other _ _ _ _ (by simp)).trans X2)
  have M0' := keep_cell b1 ((World.cell?_setCell_other _ _ _ _ (by simp)).trans M0)
  have M1' := keep_cell b1 ((World.cell?_setCell_other _ _ _ _ (by simp)).trans M1)
  have M2' := keep_cell b1 ((World.cell?_setCell_other _ _ _ _ (by simp)).trans M2)
  have O0' := keep_cell b1 (World.cell?_setCell_same _ _ _ O0)
  have O1' := keep_cell b1 ((World.cell?_setCell_other _ _ _ _ (by simp)).trans O1)
  have O2' := keep_cell b1 ((World.cell?_setCell_other _ _ _ _ (by simp)).trans O2)
  have f10' : w2.frozen? ⟨w.heap.size + 1, 0, none⟩ = false := keep_free b1 (by simp; omega) (by simpa using f10)
  have f11' : w2.frozen? ⟨w.heap.size + 1, 1, none⟩ = false := keep_free b1 (by simp; omega) (by simpa using f11)
  have f12' : w2.frozen? ⟨w.heap.size + 1, 2, none⟩ = false := keep_free b1 (by simp; omega) (by simpa using f12)
  have f20' : w2.frozen? ⟨w.heap.size + 1 + 1, 0, none⟩ = false := keep_free b1 (by simp; omega) (by simpa using f20)
  have f21' : w2.frozen? ⟨w.heap.size + 1 + 1, 1, none⟩ = false := keep_free b1 (by simp; omega) (by simpa using f21)
  have f22' : w2.frozen? ⟨w.heap.size + 1 + 1, 2, none⟩ = false := keep_free b1 (by simp; omega) (by simpa using f22)
  clear X0 M0 O0 f10 f20 X1 M1 O1 f11 f21 X2 M2 O2 f12 f22
  have X0 := X0'
  have X1 := X1'
  have X2 := X2'
  clear X0' X1' X2'
  have M0 := M0'
  have M1 := M1'
  have M2 := M2'
  clear M0' M1' M2'
  have O0 := O0'
  have O1 := O1'
  have O2 := O2'
  clear O0' O1' O2'
  have f10 := f10'
  have f11 := f11'
  have f12 := f12'
  clear f10' f11' f12'
  have f20 := f20'
  have f21 := f21'
  have f22 := f22'
  clear f20' f21' f22'
  have hB2 : Below w.heap.size w w2 := D1.out.trans (b1.mono (by have := D1.out.size; exact this))
  clear hB
  have hB := hB2
  clear hB2
  have hlo1 : ∀ b, b ∈ fq1 → w1.heap.size ≤ b := fun b hb => by have := n1.lo b hb; simpa using this
  have hz2 : w.heap.size + 1 + 1 < w2.heap.size := by have := b1.size; simp at this; omega
  clear hz
  have hz := hz2
  clear hz2
  have DJ01 : Hid (∀ b, b ∈ fq0 → b ∉ fq1) := Lib.hid (fun b hb hb2 => by have := LT0.out b hb; have := hlo1 b hb2; omega)
  have ht : ∀ b, b ∈ fq0 → b < (w1.setCell ⟨w.heap.size + 1 + 1, 0, none⟩ (.slice a0 l0 k0)).heap.size := fun b hb => by have := LT0.out b hb; simp; omega
  have hf : Free fq0 w2 := (Free.same (w' := w1.setCell ⟨w.heap.size + 1 + 1, 0, none⟩ (.slice a0 l0 k0)) FR0.out (fun b hb => Below.heap_setCell _ _ _ _ (by have := L0.out b hb; simp; omega))).below ht b1
  have hl : ∀ b, b ∈ fq0 → b < w2.heap.size := fun b hb => by have := ht b hb; have := b1.size; omega
  clear FR0 LT0 ht
  have FR0 := Lib.hid hf
  have LT0 := Lib.hid hl
  clear hf hl
  have r0' := (r0.same boolR_fits (w' := w1.setCell _ _) (fun b hb => Below.heap_setCell _ ⟨w.heap.size + 1 + 1, 0, none⟩ (.slice a0 l0 k0) _ (by have := L0.out b hb; simp; omega)) (by simp)).below boolR_fits b1
  clear r0
  have r0 := r0'
  clear r0'
  have L1 : Hid (∀ b, b ∈ fq1 → w.heap.size + 1 + 1 < b) := Lib.hid (fun b hb => by have := hlo1 b hb; have := Z1.out; omega)
  have D2 := Lib.hid (hB.setCell (p := ⟨w.heap.size + 1 + 1, 1, none⟩) (by simp; omega) (.slice a1 l1 k1))
  have Z2 := Lib.hid hz
  have ON1 := Lib.hid n1.once
  have FR1 := Lib.hid n1.free
  have LT1 : Hid (∀ b, b ∈ fq1 → b < w2.heap.size) := Lib.hid (r1.lt boolR_fits)
  have HR0 := Lib.hid r0
  have HR1 := Lib.hid r1
  have HN1 := Lib.hid n1
  have HBb1 := Lib.hid b1
  have HhB := Lib.hid hB
  have Hlo1 := Lib.hid hlo1
  have Hz := Lib.hid hz
  clear r0 r1 n1 b1 hB hlo1 hz
  go_wp2_with fail
  have r0 := HR0.out
  have r1 := HR1.out
  have hB := HhB.out
  have hz := Hz.out
  clear HhB Hz HR0 HR1
  refine (toBoolS_any v2 x.send fp2 (by omega) _ (G2.out.below boolR_fits D2.out)).mono ?_
  rintro e w3 ⟨v'2, fq2, rfl, r2, n2, b2⟩
  obtain ⟨a2, l2, k2, rfl⟩ := r2.form
  have X0' := keep_cell b2 ((World.cell?_setCell_other _ _ _ _ (by simp)).trans X0)
  have X1' := keep_cell b2 ((World.cell?_setCell_other _ _ _ _ (by simp)).trans X1)
  have X2' := keep_cell b2 ((World.cell?_setCell_other _ _ _ _ (by simp)).trans X2)
  have M0' := keep_cell b2 ((World.cell?_setCell_other _ _ _ _ (by simp)).trans M0)
  have M1' := keep_cell b2 ((World.cell?_setCell_other _ _ _ _ (by simp)).trans M1)
  have M2' := keep_cell b2 ((World.cell?_setCell_other _ _ _ _ (by simp)).trans M2)
  have O0' := keep_cell b2 ((World.cell?_setCell_other _ _ _ _ (by simp)).trans O0)
  have O1' := keep_cell b2 (World.cell?_setCell_same _ _ _ O1)
  have O2' := keep_cell b2 ((World.cell?_setCell_other _ _ _ _ (by simp)).trans O2)
  have f10' : w3.frozen? ⟨w.heap.size + 1, 0, none⟩ = false := keep_free b2 (by simp; omega) (by simpa using f10)
  have f11' : w3.frozen? ⟨w.heap.size + 1, 1, none⟩ = false := keep_free b2 (by simp; omega) (by simpa using f11)
  have f12' : w3.frozen? ⟨w.heap.size + 1, 2, none⟩ = false := keep_free b2 (by simp; omega) (by simpa using f12)
  have f20' : w3.frozen? ⟨w.heap.size + 1 + 1, 0, none⟩ = false := keep_free b2 (by simp; omega) (by simpa using f20)
  have f21' : w3.frozen? ⟨w.heap.size + 1 + 1, 1, none⟩ = false := keep_free b2 (by simp; omega) (by simpa using f21)
  have f22' : w3.frozen? ⟨w.heap.size + 1 + 1, 2, none⟩ = false := keep_free b2 (by simp; omega) (by simpa using f22)
  clear X0 M0 O0 f10 f20 X1 M1 O1 f11 f21 X2 M2 O2 f12 f22
  have X0 := X0'
  have X1 := X1'
  have X2 := X2'
  clear X0' X1' X2'
  have M0 := M0'
  have M1 := M1'
  have M2 := M2'
  clear M0' M1' M2'
  have O0 := O0'
  have O1 := O1'
  have O2 := O2'
  clear O0' O1' O2'
  have f10 := f10'
  have f11 := f11'
  have f12 := f12'
  clear f10' f11' f12'
  have f20 := f20'
  have f21 := f21'
  have f22 := f22'
  clear f20' f21' f22'
  have hB2 : Below w.heap.size w w3 := D2.out.trans (b2.mono (by have := D2.out.size; exact this))
  clear hB
  have hB := hB2
  clear hB2
  have hlo2 : ∀ b, b ∈ fq2 → w2.heap.size ≤ b := fun b hb => by have := n2.lo b hb; simpa using this
  have hz2 : w.heap.size + 1 + 1 < w3.heap.size := by have := b2.size; simp at this; omega
  clear hz
  have hz := hz2
  clear hz2
  have DJ02 : Hid (∀ b, b ∈ fq0 → b ∉ fq2) := Lib.hid (fun b hb hb2 => by have := LT0.out b hb; have := hlo2 b hb2; omega)
  have ht : ∀ b, b ∈ fq0 → b < (w2.setCell ⟨w.heap.size + 1 + 1, 1, none⟩ (.slice a1 l1 k1)).heap.size := fun b hb => by have := LT0.out b hb; simp; omega
  have hf : Free fq0 w3 := (Free.same (w' := w2.setCell ⟨w.heap.size + 1 + 1, 1, none⟩ (.slice a1 l1 k1)) FR0.out (fun b hb => Below.heap_setCell _ _ _ _ (by have := L0.out b hb; simp; omega))).below ht b2
  have hl : ∀ b, b ∈ fq0 → b < w3.heap.size := fun b hb => by have := ht b hb; have := b2.size; omega
  clear FR0 LT0 ht
  have FR0 := Lib.hid hf
  have LT0 := Lib.hid hl
  clear hf hl
  have r0' := (r0.same boolR_fits (w' := w2.setCell _ _) (fun b hb => Below.heap_setCell _ ⟨w.heap.size + 1 + 1, 1, none⟩ (.slice a1 l1 k1) _ (by have := L0.out b hb; simp; omega)) (by simp)).below boolR_fits b2
  clear r0
  have r0 := r0'
  clear r0'
  have DJ12 : Hid (∀ b, b ∈ fq1 → b ∉ fq2) := Lib.hid (fun b hb hb2 => by have := LT1.out b hb; have := hlo2 b hb2; omega)
  have ht : ∀ b, b ∈ fq1 → b < (w2.setCell ⟨w.heap.size + 1 + 1, 1, none⟩ (.slice a1 l1 k1)).heap.size := fun b hb => by have := LT1.out b hb; simp; omega
  have hf : Free fq1 w3 := (Free.same (w' := w2.setCell ⟨w.heap.size + 1 + 1, 1, none⟩ (.slice a1 l1 k1)) FR1.out (fun b hb => Below.heap_setCell _ _ _ _ (by have := L1.out b hb; simp; omega))).below ht b2
  have hl : ∀ b, b ∈ fq1 → b < w3.heap.size := fun b hb => by have := ht b hb; have := b2.size; omega
  clear FR1 LT1 ht
  have FR1 := Lib.hid hf
  have LT1 := Lib.hid hl
  clear hf hl
  have r1' := (r1.same boolR_fits (w' := w2.setCell _ _) (fun b hb => Below.heap_setCell _ ⟨w.heap.size + 1 + 1, 1, none⟩ (.slice a1 l1 k1) _ (by have := L1.out b hb; simp; omega)) (by simp)).below boolR_fits b2
  clear r1
  have r1 := r1'
  clear r1'
  have L2 : Hid (∀ b, b ∈ fq2 → w.heap.size + 1 + 1 < b) := Lib.hid (fun b hb => by have := hlo2 b hb; have := Z2.out; omega)
  have D3 := Lib.hid (hB.setCell (p := ⟨w.heap.size + 1 + 1, 2, none⟩) (by simp; omega) (.slice a2 l2 k2))
  have Z3 := Lib.hid hz
  have ON2 := Lib.hid n2.once
  have FR2 := Lib.hid n2.free
  have LT2 : Hid (∀ b, b ∈ fq2 → b < w3.heap.size) := Lib.hid (r2.lt boolR_fits)
  have HR0 := Lib.hid r0
  have HR1 := Lib.hid r1
  have HR2 := Lib.hid r2
  have HhB := Lib.hid hB
  have Hz := Lib.hid hz
  clear r0 r1 r2 n2 b2 hB hlo2 hz X0 X1 X2
  go_wp2
  have hsame : ∀ (fq : List Nat), (∀ b, b ∈ fq → w.heap.size + 1 + 1 < b) → ∀ {u u0 u1 u2 : Value}, Same fq w3 ((((w3.setCell ⟨w.heap.size + 1 + 1, 2, none⟩ u).setCell ⟨w.heap.size + 1, 0, none⟩ u0).setCell ⟨w.heap.size + 1, 1, none⟩ u1).setCell ⟨w.heap.size + 1, 2, none⟩ u2) := fun fq hq => by
    intro u u0 u1 u2 b hb
    have := hq b hb
    rw [Below.heap_setCell _ _ _ _ (by simp; omega), Below.heap_setCell _ _ _ _ (by simp; omega), Below.heap_setCell _ _ _ _ (by simp; omega), Below.heap_setCell _ _ _ _ (by simp; omega)]
  have HL : ∀ b, b ∈ fq0 ++ fq1 ++ fq2 → w.heap.size + 1 + 1 < b := (all_app (T := fun b => w.heap.size + 1 + 1 < b) (all_app (T := fun b => w.heap.size + 1 + 1 < b) L0.out L1.out) L2.out)
  exact bodyPost_ret (v := .agg #[.slice a0 l0 k0, .slice a1 l1 k1, .slice a2 l2 k2]) (by simp [results, Try.results30, go_sem, M0, M1, M2]) rfl
    ⟨_, fq0, _, fq1, _, fq2, rfl, HR0.out.same boolR_fits (hsame _ L0.out) (by simp), HR1.out.same boolR_fits (hsame _ L1.out) (by simp), HR2.out.same boolR_fits (hsame _ L2.out) (by simp), ⟨fun b hb => by have := HL b hb; omega, (nodup_app (nodup_app ON0.out ON1.out DJ01.out) ON2.out (all_app (T := fun b => b ∉ fq2) DJ02.out DJ12.out)), (Free.app (Free.app FR0.out FR1.out) FR2.out).same (hsame _ HL)⟩, ((((HhB.out.setCell (by simp; omega) _).setCell (by simp) _).setCell (by simp) _).setCell (by simp) _)⟩

/-- what may come from outside -/
def inOk (x : CycIn) : Bool := decide (x.ready.length = 3) && decide (x.stall.length = 4) && decide (x.send.length = 3)

theorem sInOk_any (x : CycIn) (v0 v1 v2 : Value) (fp0 fp1 fp2 : List Nat) (w : World) (g0 : SlR 1 boolR w x.ready v0 fp0) (g1 : SlR 1 boolR w x.stall v1 fp1) (g2 : SlR 1 boolR w x.send v2 fp2) :
    Calls Try.prog 29 #[.agg #[v0, v1, v2]] w fun e w' => e = .returned (.bool (inOk x)) ∧ Below w.heap.size w w' := by
  have hb := below_alloc w (.cells #[v0, v1, v2] 44)
  have HB := Lib.hid hb
  obtain ⟨a0, n0, c0, rfl, hn0, _, _, _, _⟩ := g0.opened
  obtain ⟨a1, n1, c1, rfl, hn1, _, _, _, _⟩ := g1.opened
  obtain ⟨a2, n2, c2, rfl, hn2, _, _, _, _⟩ := g2.opened
  have HO : Hid (inOk x = ((n0 : Int) == 3 && (n1 : Int) == 4 && (n2 : Int) == 3)) := Lib.hid (by unfold inOk; rw [hn0.out, hn1.out, hn2.out, Bool.eq_iff_iff]; simp; omega)
  clear hb g0 g1 g2 hn0 hn1 hn2
  cases q0 : (n0 : Int) == 3
  all_goals cases q1 : (n1 : Int) == 4
  all_goals cases q2 : (n2 : Int) == 3
  all_goals
    have H0 := Lib.hid q0
    have H1 := Lib.hid q1
    have H2 := Lib.hid q2
    go_enter Try.func29, Try.ntmps29
    go_wp2
    go_ret
    exact ⟨ret_bool (by rw [HO.out, H0.out, H1.out, H2.out]; rfl), HB.out⟩

theorem iInOk_any (x : CycIn) (v0 v1 v2 : Value) (fp0 fp1 fp2 : List Nat) (w : World) (g0 : SlR 1 boolR w x.ready v0 fp0) (g1 : SlR 1 boolR w x.stall v1 fp1) (g2 : SlR 1 boolR w x.send v2 fp2) :
    Calls Try.prog 31 #[.agg #[v0, v1, v2]] w fun e w' => e = .returned (.bool (inOk x)) ∧ Below w.heap.size w w' := by
  have hb := below_alloc w (.cells #[v0, v1, v2] 44)
  have HB := Lib.hid hb
  obtain ⟨a0, n0, c0, rfl, hn0, _, _, _, _⟩ := g0.opened
  obtain ⟨a1, n1, c1, rfl, hn1, _, _, _, _⟩ := g1.opened
  obtain ⟨a2, n2, c2, rfl, hn2, _, _, _, _⟩ := g2.opened
  have HO : Hid (inOk x = ((n0 : Int) == 3 && (n1 : Int) == 4 && (n2 : Int) == 3)) := Lib.hid (by unfold inOk; rw [hn0.out, hn1.out, hn2.out, Bool.eq_iff_iff]; simp; omega)
  clear hb g0 g1 g2 hn0 hn1 hn2
  cases q0 : (n0 : Int) == 3
  all_goals cases q1 : (n1 : Int) == 4
  all_goals cases q2 : (n2 : Int) == 3
  all_goals
    have H0 := Lib.hid q0
    have H1 := Lib.hid q1
    have H2 := Lib.hid q2
    go_enter Try.func31, Try.ntmps31
    go_wp2
    go_ret
    exact ⟨ret_bool (by rw [HO.out, H0.out, H1.out, H2.out]; rfl), HB.out⟩

end Go.Proofs.Ytmnjoogaiokhkaa
