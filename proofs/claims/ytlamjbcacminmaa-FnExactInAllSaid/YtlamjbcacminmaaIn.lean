/-
  What comes from outside: szCycIn, toCycIn, eqCycIn, InOk (both).
-/
import Derived.Test.YtlamjbcacminmaaProg
import Derived.Test.YtlamjbcacminmaaBase
import Derived.Test.YtlamjbcacminmaaInts
import Derived.Test.YtlamjbcacminmaaInts2
import Derived.Test.YtlamjbcacminmaaBools
import Derived.Test.YtlamjbcacminmaaNew
import Derived.KernelRfl
import Derived.WalkSmall
namespace Go.Proofs.Ytlamjbcacminmaa
set_option linter.unusedVariables false
set_option linter.unusedSimpArgs false
open Go.RowKit Go.ChangeShapes

structure CycIn where
  ready : List Bool
  stall : List Bool
  send : List Bool
  deriving DecidableEq

def cycInR : Pr CycIn := fun w x cs fp => ∃ (v0 v1 v2 : Value) (fp0 fp1 fp2 : List Nat), cs = [v0, v1, v2] ∧ fp = fp0 ++ fp1 ++ fp2 ∧ SlR 1 boolR w x.ready v0 fp0 ∧ SlR 1 boolR w x.stall v1 fp1 ∧ SlR 1 boolR w x.send v2 fp2

def szIn (left : Int) (x : CycIn) : Int := szR left (x.ready.length + x.stall.length + x.send.length)
theorem szIn_neg {x : CycIn} (h : szIn 1048576 x < 0) : szIn 1048576 x = -1 := szR_neg h
theorem szIn_ok {x : CycIn} (h : 0 ≤ szIn 1048576 x) : x.ready.length + x.stall.length + x.send.length ≤ 1048576 := by unfold szIn szR at h; split at h <;> omega

set_option maxRecDepth 100000 in
set_option maxHeartbeats 3200000 in
theorem eqIn_any (x y : CycIn) (v0 v1 v2 u0 u1 u2 : Value) (fp0 fp1 fp2 fq0 fq1 fq2 : List Nat) (w : World) (g0 : SlR 1 boolR w x.ready v0 fp0) (g1 : SlR 1 boolR w x.stall v1 fp1) (g2 : SlR 1 boolR w x.send v2 fp2) (k0 : SlR 1 boolR w y.ready u0 fq0) (k1 : SlR 1 boolR w y.stall u1 fq1) (k2 : SlR 1 boolR w y.send u2 fq2) :
    Calls Try.prog 46 #[.agg #[v0, v1, v2], .agg #[u0, u1, u2]] w fun e w' => e = .returned (.bool (decide (x = y))) ∧ Below w.heap.size w w' := by
  have hb : Below w.heap.size w ((w.alloc (.cells #[v0, v1, v2] 57)).alloc (.cells #[u0, u1, u2] 57)) := ((Below.refl _ _).alloc (Nat.le_refl _) _).alloc (by simp) _
  have G0 := Lib.hid (SlR.below boolR_fits g0 hb)
  have K0 := Lib.hid (SlR.below boolR_fits k0 hb)
  have G1 := Lib.hid (SlR.below boolR_fits g1 hb)
  have K1 := Lib.hid (SlR.below boolR_fits k1 hb)
  have G2 := Lib.hid (SlR.below boolR_fits g2 hb)
  have K2 := Lib.hid (SlR.below boolR_fits k2 hb)
  have B0 := Lib.hid hb
  have HD := Lib.hid (show decide (x = y) = (decide (x.ready = y.ready) && decide (x.stall = y.stall) && decide (x.send = y.send)) by cases x; cases y; simp [Bool.and_assoc])
  clear hb g0 k0 g1 k1 g2 k2
  cases e0 : decide (x.ready = y.ready)
  · have E0 := Lib.hid e0
    clear e0
    go_enter Try.func46, Try.ntmps46
    go_wp2_with fail
    refine (eqBoolS_any v0 u0 _ _ fp0 fq0 _ G0.out K0.out).mono ?_
    rw [E0.out]
    rintro e w' ⟨rfl, q0, rfl⟩
    have B1 := Lib.hid (below_drewN B0.out (q0))
    go_wp2
    go_ret
    exact ⟨ret_bool (by rw [HD.out, E0.out]; simp), B1.out⟩
  · have E0 := Lib.hid e0
    clear e0
    cases e1 : decide (x.stall = y.stall)
    · have E1 := Lib.hid e1
      clear e1
      go_enter Try.func46, Try.ntmps46
      go_wp2_with fail
      refine (eqBoolS_any v0 u0 _ _ fp0 fq0 _ G0.out K0.out).mono ?_
      rw [E0.out]
      rintro e w' ⟨rfl, q0, rfl⟩
      have B1 := Lib.hid (below_drewN B0.out (q0))
      go_wp2_with fail
      refine (eqBoolS_any v1 u1 _ _ fp1 fq1 _ (SlR.below boolR_fits G1.out (below_drewN (Below.refl _ _) (q0))) (SlR.below boolR_fits K1.out (below_drewN (Below.refl _ _) (q0)))).mono ?_
      rw [E1.out]
      rintro e w' ⟨rfl, q1, rfl⟩
      have B2 := Lib.hid (below_drewN B0.out (q0 + q1))
      go_wp2
      go_ret
      exact ⟨ret_bool (by rw [HD.out, E0.out, E1.out]; simp), B2.out⟩
    · have E1 := Lib.hid e1
      clear e1
      cases e2 : decide (x.send = y.send)
      · have E2 := Lib.hid e2
        clear e2
        go_enter Try.func46, Try.ntmps46
        go_wp2_with fail
        refine (eqBoolS_any v0 u0 _ _ fp0 fq0 _ G0.out K0.out).mono ?_
        rw [E0.out]
        rintro e w' ⟨rfl, q0, rfl⟩
        have B1 := Lib.hid (below_drewN B0.out (q0))
        go_wp2_with fail
        refine (eqBoolS_any v1 u1 _ _ fp1 fq1 _ (SlR.below boolR_fits G1.out (below_drewN (Below.refl _ _) (q0))) (SlR.below boolR_fits K1.out (below_drewN (Below.refl _ _) (q0)))).mono ?_
        rw [E1.out]
        rintro e w' ⟨rfl, q1, rfl⟩
        have B2 := Lib.hid (below_drewN B0.out (q0 + q1))
        go_wp2_with fail
        refine (eqBoolS_any v2 u2 _ _ fp2 fq2 _ (SlR.below boolR_fits G2.out (below_drewN (Below.refl _ _) (q0 + q1))) (SlR.below boolR_fits K2.out (below_drewN (Below.refl _ _) (q0 + q1)))).mono ?_
        rw [E2.out]
        rintro e w' ⟨rfl, q2, rfl⟩
        have B3 := Lib.hid (below_drewN B0.out (q0 + q1 + q2))
        go_wp2
        go_ret
        exact ⟨ret_bool (by rw [HD.out, E0.out, E1.out, E2.out]; simp), B3.out⟩
      · have E2 := Lib.hid e2
        clear e2
        go_enter Try.func46, Try.ntmps46
        go_wp2_with fail
        refine (eqBoolS_any v0 u0 _ _ fp0 fq0 _ G0.out K0.out).mono ?_
        rw [E0.out]
        rintro e w' ⟨rfl, q0, rfl⟩
        have B1 := Lib.hid (below_drewN B0.out (q0))
        go_wp2_with fail
        refine (eqBoolS_any v1 u1 _ _ fp1 fq1 _ (SlR.below boolR_fits G1.out (below_drewN (Below.refl _ _) (q0))) (SlR.below boolR_fits K1.out (below_drewN (Below.refl _ _) (q0)))).mono ?_
        rw [E1.out]
        rintro e w' ⟨rfl, q1, rfl⟩
        have B2 := Lib.hid (below_drewN B0.out (q0 + q1))
        go_wp2_with fail
        refine (eqBoolS_any v2 u2 _ _ fp2 fq2 _ (SlR.below boolR_fits G2.out (below_drewN (Below.refl _ _) (q0 + q1))) (SlR.below boolR_fits K2.out (below_drewN (Below.refl _ _) (q0 + q1)))).mono ?_
        rw [E2.out]
        rintro e w' ⟨rfl, q2, rfl⟩
        have B3 := Lib.hid (below_drewN B0.out (q0 + q1 + q2))
        go_wp2
        go_ret
        exact ⟨ret_bool (by rw [HD.out, E0.out, E1.out, E2.out]; rfl), B3.out⟩

/-- what may come from outside -/
def inOk (x : CycIn) : Bool := decide (x.ready.length = 3) && decide (x.stall.length = 4) && decide (x.send.length = 3)

theorem sInOk_any (x : CycIn) (v0 v1 v2 : Value) (fp0 fp1 fp2 : List Nat) (w : World) (g0 : SlR 1 boolR w x.ready v0 fp0) (g1 : SlR 1 boolR w x.stall v1 fp1) (g2 : SlR 1 boolR w x.send v2 fp2) :
    Calls Try.prog 44 #[.agg #[v0, v1, v2]] w fun e w' => e = .returned (.bool (inOk x)) ∧ Below w.heap.size w w' := by
  have hb := below_alloc w (.cells #[v0, v1, v2] 57)
  have HB := Lib.hid hb
  obtain ⟨a0, n0, c0, rfl, hn0, _, _, _, _⟩ := g0.opened
  obtain ⟨a1, n1, c1, rfl, hn1, _, _, _, _⟩ := g1.opened
  obtain ⟨a2, n2, c2, rfl, hn2, _, _, _, _⟩ := g2.opened
  have HO : Hid (inOk x = ((n0 : Int) == 3 && (n1 : Int) == 4 && (n2 : Int) == 3)) := Lib.hid (by unfold inOk; rw [hn0.out, hn1.out, hn2.out, Bool.eq_iff_iff]; simp; omega)
  clear hb g0 g1 g2 hn0 hn1 hn2
  cases q0 : (n0 : Int) == 3
  all_goals cases q1 : (n1 : Int) == 4
  all_goals cases q2 : (n2 : Int) == 3
  all_goals
    have H0 := Lib.hid q0
    have H1 := Lib.hid q1
    have H2 := Lib.hid q2
    go_enter Try.func44, Try.ntmps44
    go_wp2
    go_ret
    exact ⟨ret_bool (by rw [HO.out, H0.out, H1.out, H2.out]; rfl), HB.out⟩

theorem iInOk_any (x : CycIn) (v0 v1 v2 : Value) (fp0 fp1 fp2 : List Nat) (w : World) (g0 : SlR 1 boolR w x.ready v0 fp0) (g1 : SlR 1 boolR w x.stall v1 fp1) (g2 : SlR 1 boolR w x.send v2 fp2) :
    Calls Try.prog 42 #[.agg #[v0, v1, v2]] w fun e w' => e = .returned (.bool (inOk x)) ∧ Below w.heap.size w w' := by
  have hb := below_alloc w (.cells #[v0, v1, v2] 57)
  have HB := Lib.hid hb
  obtain ⟨a0, n0, c0, rfl, hn0, _, _, _, _⟩ := g0.opened
  obtain ⟨a1, n1, c1, rfl, hn1, _, _, _, _⟩ := g1.opened
  obtain ⟨a2, n2, c2, rfl, hn2, _, _, _, _⟩ := g2.opened
  have HO : Hid (inOk x = ((n0 : Int) == 3 && (n1 : Int) == 4 && (n2 : Int) == 3)) := Lib.hid (by unfold inOk; rw [hn0.out, hn1.out, hn2.out, Bool.eq_iff_iff]; simp; omega)
  clear hb g0 g1 g2 hn0 hn1 hn2
  cases q0 : (n0 : Int) == 3
  all_goals cases q1 : (n1 : Int) == 4
  all_goals cases q2 : (n2 : Int) == 3
  all_goals
    have H0 := Lib.hid q0
    have H1 := Lib.hid q1
    have H2 := Lib.hid q2
    go_enter Try.func42, Try.ntmps42
    go_wp2
    go_ret
    exact ⟨ret_bool (by rw [HO.out, H0.out, H1.out, H2.out]; rfl), HB.out⟩

end Go.Proofs.Ytlamjbcacminmaa
