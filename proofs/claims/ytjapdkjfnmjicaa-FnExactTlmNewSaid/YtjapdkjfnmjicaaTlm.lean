/-
  How a bus stands: sz.., eq.., to.. of TlmState.
-/
import Derived.Test.YtjapdkjfnmjicaaProg
import Derived.Test.YtjapdkjfnmjicaaBase
import Derived.Test.YtjapdkjfnmjicaaAtm
import Derived.Test.YtjapdkjfnmjicaaJob
import Derived.OwnWalk
import Derived.KernelRfl
import Derived.WalkSmall
namespace Go.Proofs.Ytjapdkjfnmjicaa
set_option linter.unusedVariables false
set_option linter.unusedSimpArgs false
open Go.RowKit Go.ChangeShapes

structure Tlm where
  atm : Atm
  asked : List Int
  wait : List Job
  done : List Job
  told : List Job
  deriving DecidableEq

def tlmR : Pr Tlm := fun w x cs fp => ∃ (v0 v1 v2 v3 v4 v5 : Value) (fp0 fp1 fp2 fp3 fp4 fp5 : List Nat), cs = [v0, v1, v2, v3, v4, v5] ∧ fp = fp0 ++ fp1 ++ fp2 ++ fp3 ++ fp4 ++ fp5 ∧ SlR 1 intR w x.atm.mem v0 fp0 ∧ SlR 1 intR w x.atm.holds v1 fp1 ∧ SlR 1 intR w x.asked v2 fp2 ∧ SlR 5 jobR w x.wait v3 fp3 ∧ SlR 5 jobR w x.done v4 fp4 ∧ SlR 5 jobR w x.told v5 fp5
theorem tlmR_fits : Fits 6 tlmR := by
  refine ⟨fun ⟨v0, v1, v2, v3, v4, v5, fp0, fp1, fp2, fp3, fp4, fp5, e, e2, g0, g1, g2, g3, g4, g5⟩ => by rw [e]; rfl, fun ⟨v0, v1, v2, v3, v4, v5, fp0, fp1, fp2, fp3, fp4, fp5, e, e2, g0, g1, g2, g3, g4, g5⟩ b hb => ?_, fun ⟨v0, v1, v2, v3, v4, v5, fp0, fp1, fp2, fp3, fp4, fp5, e, e2, g0, g1, g2, g3, g4, g5⟩ hs hz => ⟨v0, v1, v2, v3, v4, v5, fp0, fp1, fp2, fp3, fp4, fp5, e, e2, g0.same intR_fits (hs.mono (fun b hb => by rw [e2]; simp [hb])) hz, g1.same intR_fits (hs.mono (fun b hb => by rw [e2]; simp [hb])) hz, g2.same intR_fits (hs.mono (fun b hb => by rw [e2]; simp [hb])) hz, g3.same jobR_fits (hs.mono (fun b hb => by rw [e2]; simp [hb])) hz, g4.same jobR_fits (hs.mono (fun b hb => by rw [e2]; simp [hb])) hz, g5.same jobR_fits (hs.mono (fun b hb => by rw [e2]; simp [hb])) hz⟩⟩
  rw [e2] at hb
  simp only [List.mem_append] at hb
  rcases hb with (((((hb | hb) | hb) | hb) | hb) | hb)
  · exact g0.lt intR_fits b hb
  · exact g1.lt intR_fits b hb
  · exact g2.lt intR_fits b hb
  · exact g3.lt jobR_fits b hb
  · exact g4.lt jobR_fits b hb
  · exact g5.lt jobR_fits b hb

def sm_Tlm (x : Tlm) : Prop := sm_Atm x.atm ∧ sm_ints x.asked ∧ sm_jobs x.wait ∧ sm_jobs x.done ∧ sm_jobs x.told

set_option maxRecDepth 100000 in
set_option maxHeartbeats 3200000 in
theorem eq_Tlm (x y : Tlm) (v0 v1 v2 v3 v4 v5 u0 u1 u2 u3 u4 u5 : Value) (fp0 fp1 fp2 fp3 fp4 fp5 fq0 fq1 fq2 fq3 fq4 fq5 : List Nat) (w : World) (g0 : SlR 1 intR w x.atm.mem v0 fp0) (g1 : SlR 1 intR w x.atm.holds v1 fp1) (g2 : SlR 1 intR w x.asked v2 fp2) (g3 : SlR 5 jobR w x.wait v3 fp3) (g4 : SlR 5 jobR w x.done v4 fp4) (g5 : SlR 5 jobR w x.told v5 fp5) (k0 : SlR 1 intR w y.atm.mem u0 fq0) (k1 : SlR 1 intR w y.atm.holds u1 fq1) (k2 : SlR 1 intR w y.asked u2 fq2) (k3 : SlR 5 jobR w y.wait u3 fq3) (k4 : SlR 5 jobR w y.done u4 fq4) (k5 : SlR 5 jobR w y.told u5 fq5) :
    Calls Try.prog 38 #[.agg #[v0, v1, v2, v3, v4, v5], .agg #[u0, u1, u2, u3, u4, u5]] w fun e w' => e = .returned (.bool (decide (x = y))) ∧ Below w.heap.size w w' := by
  have hb : Below w.heap.size w ((w.alloc (.cells #[v0, v1, v2, v3, v4, v5] 57)).alloc (.cells #[u0, u1, u2, u3, u4, u5] 57)) := ((Below.refl _ _).alloc (Nat.le_refl _) _).alloc (by simp) _
  have G0 := Lib.hid (SlR.below intR_fits g0 hb)
  have K0 := Lib.hid (SlR.below intR_fits k0 hb)
  have G1 := Lib.hid (SlR.below intR_fits g1 hb)
  have K1 := Lib.hid (SlR.below intR_fits k1 hb)
  have G2 := Lib.hid (SlR.below intR_fits g2 hb)
  have K2 := Lib.hid (SlR.below intR_fits k2 hb)
  have G3 := Lib.hid (SlR.below jobR_fits g3 hb)
  have K3 := Lib.hid (SlR.below jobR_fits k3 hb)
  have G4 := Lib.hid (SlR.below jobR_fits g4 hb)
  have K4 := Lib.hid (SlR.below jobR_fits k4 hb)
  have G5 := Lib.hid (SlR.below jobR_fits g5 hb)
  have K5 := Lib.hid (SlR.below jobR_fits k5 hb)
  have B := Lib.hid hb
  have HD := Lib.hid (show decide (x = y) = (decide (x.atm = y.atm) && decide (x.asked = y.asked) && decide (x.wait = y.wait) && decide (x.done = y.done) && decide (x.told = y.told)) by cases x; cases y; simp [Bool.and_assoc])
  clear hb g0 k0 g1 k1 g2 k2 g3 k3 g4 k4 g5 k5
  go_enter Try.func38, Try.ntmps38
  go_wp2_with fail
  refine (eq_Atm x.atm y.atm _ _ _ _ fp0 fp1 fq0 fq1 _ G0.out G1.out K0.out K1.out).mono ?_
  rintro e w1 ⟨rfl, b⟩
  have X2 := keep_cell b (alloc2_old w _ _ _ _ 2 rfl)
  have X3 := keep_cell b (alloc2_old w _ _ _ _ 3 rfl)
  have X4 := keep_cell b (alloc2_old w _ _ _ _ 4 rfl)
  have X5 := keep_cell b (alloc2_old w _ _ _ _ 5 rfl)
  have Y2 := keep_cell b (alloc2_new w _ _ _ _ 2 rfl)
  have Y3 := keep_cell b (alloc2_new w _ _ _ _ 3 rfl)
  have Y4 := keep_cell b (alloc2_new w _ _ _ _ 4 rfl)
  have Y5 := keep_cell b (alloc2_new w _ _ _ _ 5 rfl)
  replace G2 := Lib.hid (SlR.below intR_fits G2.out b)
  replace K2 := Lib.hid (SlR.below intR_fits K2.out b)
  replace G3 := Lib.hid (SlR.below jobR_fits G3.out b)
  replace K3 := Lib.hid (SlR.below jobR_fits K3.out b)
  replace G4 := Lib.hid (SlR.below jobR_fits G4.out b)
  replace K4 := Lib.hid (SlR.below jobR_fits K4.out b)
  replace G5 := Lib.hid (SlR.below jobR_fits G5.out b)
  replace K5 := Lib.hid (SlR.below jobR_fits K5.out b)
  replace B := Lib.hid (B.out.trans (b.mono B.out.size))
  clear b G0 K0 G1 K1
  cases e0 : decide (x.atm = y.atm)
  case' false =>
    have E0 := Lib.hid e0
    clear e0 X2 Y2 X3 Y3 X4 Y4 X5 Y5
    go_wp2
    go_ret
    exact ⟨ret_bool (by rw [HD.out, E0.out]; simp), B.out⟩
  have E0 := Lib.hid e0
  clear e0
  go_wp2_with fail
  refine (eq_ints _ _ x.asked y.asked fp2 fq2 _ G2.out K2.out).mono ?_
  rintro e w2 ⟨rfl, b⟩
  replace X3 := keep_cell b X3
  replace Y3 := keep_cell b Y3
  replace X4 := keep_cell b X4
  replace Y4 := keep_cell b Y4
  replace X5 := keep_cell b X5
  replace Y5 := keep_cell b Y5
  replace G3 := Lib.hid (SlR.below jobR_fits G3.out b)
  replace K3 := Lib.hid (SlR.below jobR_fits K3.out b)
  replace G4 := Lib.hid (SlR.below jobR_fits G4.out b)
  replace K4 := Lib.hid (SlR.below jobR_fits K4.out b)
  replace G5 := Lib.hid (SlR.below jobR_fits G5.out b)
  replace K5 := Lib.hid (SlR.below jobR_fits K5.out b)
  replace B := Lib.hid (B.out.trans (b.mono B.out.size))
  clear b G2 K2
  cases e1 : decide (x.asked = y.asked)
  case' false =>
    have E1 := Lib.hid e1
    clear e1 X3 Y3 X4 Y4 X5 Y5
    go_wp2
    go_ret
    exact ⟨ret_bool (by rw [HD.out, E0.out, E1.out]; simp), B.out⟩
  have E1 := Lib.hid e1
  clear e1
  go_wp2_with fail
  refine (eq_jobs _ _ x.wait y.wait fp3 fq3 _ G3.out K3.out).mono ?_
  rintro e w3 ⟨rfl, b⟩
  replace X4 := keep_cell b X4
  replace Y4 := keep_cell b Y4
  replace X5 := keep_cell b X5
  replace Y5 := keep_cell b Y5
  replace G4 := Lib.hid (SlR.below jobR_fits G4.out b)
  replace K4 := Lib.hid (SlR.below jobR_fits K4.out b)
  replace G5 := Lib.hid (SlR.below jobR_fits G5.out b)
  replace K5 := Lib.hid (SlR.below jobR_fits K5.out b)
  replace B := Lib.hid (B.out.trans (b.mono B.out.size))
  clear b G3 K3
  cases e2 : decide (x.wait = y.wait)
  case' false =>
    have E2 := Lib.hid e2
    clear e2 X4 Y4 X5 Y5
    go_wp2
    go_ret
    exact ⟨ret_bool (by rw [HD.out, E0.out, E1.out, E2.out]; simp), B.out⟩
  have E2 := Lib.hid e2
  clear e2
  go_wp2_with fail
  refine (eq_jobs _ _ x.done y.done fp4 fq4 _ G4.out K4.out).mono ?_
  rintro e w4 ⟨rfl, b⟩
  replace X5 := keep_cell b X5
  replace Y5 := keep_cell b Y5
  replace G5 := Lib.hid (SlR.below jobR_fits G5.out b)
  replace K5 := Lib.hid (SlR.below jobR_fits K5.out b)
  replace B := Lib.hid (B.out.trans (b.mono B.out.size))
  clear b G4 K4
  cases e3 : decide (x.done = y.done)
  case' false =>
    have E3 := Lib.hid e3
    clear e3 X5 Y5
    go_wp2
    go_ret
    exact ⟨ret_bool (by rw [HD.out, E0.out, E1.out, E2.out, E3.out]; simp), B.out⟩
  have E3 := Lib.hid e3
  clear e3
  go_wp2_with fail
  refine (eq_jobs _ _ x.told y.told fp5 fq5 _ G5.out K5.out).mono ?_
  rintro e w5 ⟨rfl, b⟩
  replace B := Lib.hid (B.out.trans (b.mono B.out.size))
  clear b G5 K5
  cases e4 : decide (x.told = y.told)
  case' false =>
    have E4 := Lib.hid e4
    clear e4 
    go_wp2
    go_ret
    exact ⟨ret_bool (by rw [HD.out, E0.out, E1.out, E2.out, E3.out, E4.out]; simp), B.out⟩
  have E4 := Lib.hid e4
  clear e4
  go_wp2
  go_ret
  exact ⟨ret_bool (by rw [HD.out,E0.out, E1.out, E2.out, E3.out, E4.out]; rfl), B.out⟩

end Go.Proofs.Ytjapdkjfnmjicaa
