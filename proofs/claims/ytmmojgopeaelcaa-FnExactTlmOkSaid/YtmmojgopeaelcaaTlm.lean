/-
  How a bus stands: sz.., eq.., to.. of TlmState.
-/
import Derived.Test.YtmmojgopeaelcaaProg
import Derived.Test.YtmmojgopeaelcaaBase
import Derived.Test.YtmmojgopeaelcaaAtm
import Derived.Test.YtmmojgopeaelcaaJob
import Derived.OwnWalk
import Derived.KernelRfl
import Derived.WalkSmall
namespace Go.Proofs.Ytmmojgopeaelcaa
set_option linter.unusedVariables false
set_option linter.unusedSimpArgs false
open Go.RowKit Go.ChangeShapes

structure Tlm where
  atm : Atm
  asked : List Int
  wait : List Job
  done : List Job
  told : List Job
  deriving DecidableEq

def tlmR : Pr Tlm := fun w x cs fp => ∃ (v0 v1 v2 v3 v4 v5 : Value) (fp0 fp1 fp2 fp3 fp4 fp5 : List Nat), cs = [v0, v1, v2, v3, v4, v5] ∧ fp = fp0 ++ fp1 ++ fp2 ++ fp3 ++ fp4 ++ fp5 ∧ SlR 1 intR w x.atm.mem v0 fp0 ∧ SlR 1 intR w x.atm.holds v1 fp1 ∧ SlR 1 intR w x.asked v2 fp2 ∧ SlR 5 jobR w x.wait v3 fp3 ∧ SlR 5 jobR w x.done v4 fp4 ∧ SlR 5 jobR w x.told v5 fp5
theorem tlmR_fits : Fits 6 tlmR := by
  refine ⟨fun ⟨v0, v1, v2, v3, v4, v5, fp0, fp1, fp2, fp3, fp4, fp5, e, e2, g0, g1, g2, g3, g4, g5⟩ => by rw [e]; rfl, fun ⟨v0, v1, v2, v3, v4, v5, fp0, fp1, fp2, fp3, fp4, fp5, e, e2, g0, g1, g2, g3, g4, g5⟩ b hb => ?_, fun ⟨v0, v1, v2, v3, v4, v5, fp0, fp1, fp2, fp3, fp4, fp5, e, e2, g0, g1, g2, g3, g4, g5⟩ hs hz => ⟨v0, v1, v2, v3, v4, v5, fp0, fp1, fp2, fp3, fp4, fp5, e, e2, g0.same intR_fits (hs.mono (fun b hb => by rw [e2]; simp [hb])) hz, g1.same intR_fits (hs.mono (fun b hb => by rw [e2]; simp [hb])) hz, g2.same intR_fits (hs.mono (fun b hb => by rw [e2]; simp [hb])) hz, g3.same jobR_fits (hs.mono (fun b hb => by rw [e2]; simp [hb])) hz, g4.same jobR_fits (hs.mono (fun b hb => by rw [e2]; simp [hb])) hz, g5.same jobR_fits (hs.mono (fun b hb => by rw [e2]; simp [hb])) hz⟩⟩
  rw [e2] at hb
  simp only [List.mem_append] at hb
  rcases hb with (((((hb | hb) | hb) | hb) | hb) | hb)
  · exact g0.lt intR_fits b hb
  · exact g1.lt intR_fits b hb
  · exact g2.lt intR_fits b hb
  · exact g3.lt jobR_fits b hb
  · exact g4.lt jobR_fits b hb
  · exact g5.lt jobR_fits b hb

set_option maxRecDepth 100000 in
theorem opens_Tlm : Opens Try.prog 62 tlmR := fun {H enc w fuel cs x} h => by
  obtain ⟨xs, n, _, _, hl, hx, hf⟩ := DataW.trod_struct Try.underlying62 h
  have hk : Try.prog.cellsOf 62 = 6 := by kernel_rfl
  have k_Atm : Try.prog.cellsOf 60 = 2 := by kernel_rfl
  have k_ints : Try.prog.cellsOf 23 = 1 := by kernel_rfl
  have k_jobs : Try.prog.cellsOf 42 = 1 := by kernel_rfl
  rw [hk] at hl
  have hx' : xs.length = 5 := hx
  match cs, hl with
  | [c0, c1, c2, c3, c4, c5], _ =>
    obtain ⟨y0, _, v0, v1, fp0, fp1, e0, _, s0, s1⟩ := opens_Atm ((hf 0 _ rfl).trans (List.getElem?_eq_getElem (by omega)))
    obtain ⟨y1, fp2, v2, e1, s2⟩ := (opens_slice Try.underlying23 (by kernel_rfl) (by decide) (opens_int Try.underlying3) intR_fits : Opens Try.prog 23 (slR 1 intR)) ((hf 1 _ rfl).trans (List.getElem?_eq_getElem (by omega)))
    obtain ⟨y2, fp3, v3, e2, s3⟩ := opens_jobs ((hf 2 _ rfl).trans (List.getElem?_eq_getElem (by omega)))
    obtain ⟨y3, fp4, v4, e3, s4⟩ := opens_jobs ((hf 3 _ rfl).trans (List.getElem?_eq_getElem (by omega)))
    obtain ⟨y4, fp5, v5, e4, s5⟩ := opens_jobs ((hf 4 _ rfl).trans (List.getElem?_eq_getElem (by omega)))
    simp [k_Atm, k_ints, k_jobs] at e0 e1 e2 e3 e4
    obtain ⟨rfl, rfl⟩ := e0
    subst e1
    subst e2
    subst e3
    subst e4
    exact ⟨⟨y0, y1, y2, y3, y4⟩, _, _, _, _, _, _, _, fp0, fp1, fp2, fp3, fp4, fp5, rfl, rfl, s0, s1, s2, s3, s4, s5⟩

def sm_Tlm (x : Tlm) : Prop := sm_Atm x.atm ∧ sm_ints x.asked ∧ sm_jobs x.wait ∧ sm_jobs x.done ∧ sm_jobs x.told

set_option maxRecDepth 100000 in
set_option maxHeartbeats 3200000 in
theorem sz_Tlm (x : Tlm) (v0 v1 v2 v3 v4 v5 : Value) (fp0 fp1 fp2 fp3 fp4 fp5 : List Nat) (left : Int) (h0 : 0 ≤ left) (h1 : left ≤ 1048576) (w : World) (g0 : SlR 1 intR w x.atm.mem v0 fp0) (g1 : SlR 1 intR w x.atm.holds v1 fp1) (g2 : SlR 1 intR w x.asked v2 fp2) (g3 : SlR 5 jobR w x.wait v3 fp3) (g4 : SlR 5 jobR w x.done v4 fp4) (g5 : SlR 5 jobR w x.told v5 fp5) :
    Calls Try.prog 35 #[.agg #[v0, v1, v2, v3, v4, v5], .int .i64 left] w (SzP left (sm_Tlm x) w) := by
  have hb := below_alloc w (.cells #[v0, v1, v2, v3, v4, v5] 62)
  have G0 := Lib.hid (SlR.below intR_fits g0 hb)
  have G1 := Lib.hid (SlR.below intR_fits g1 hb)
  have G2 := Lib.hid (SlR.below intR_fits g2 hb)
  have G3 := Lib.hid (SlR.below jobR_fits g3 hb)
  have G4 := Lib.hid (SlR.below jobR_fits g4 hb)
  have G5 := Lib.hid (SlR.below jobR_fits g5 hb)
  have B := Lib.hid hb
  clear hb g0 g1 g2 g3 g4 g5
  go_enter Try.func35, Try.ntmps35
  go_wp2_with fail
  refine (sz_Atm x.atm _ _ fp0 fp1 left (by omega) (by omega) _ G0.out G1.out).mono ?_
  rintro e w1 ⟨z0, rfl, le0, sm0, b⟩
  have X2 := keep_cell b (alloc1_new w _ _ 2 rfl)
  have X3 := keep_cell b (alloc1_new w _ _ 3 rfl)
  have X4 := keep_cell b (alloc1_new w _ _ 4 rfl)
  have X5 := keep_cell b (alloc1_new w _ _ 5 rfl)
  replace G2 := Lib.hid (SlR.below intR_fits G2.out b)
  replace G3 := Lib.hid (SlR.below jobR_fits G3.out b)
  replace G4 := Lib.hid (SlR.below jobR_fits G4.out b)
  replace G5 := Lib.hid (SlR.below jobR_fits G5.out b)
  replace B := Lib.hid (B.out.trans (b.mono B.out.size))
  have S0 := Lib.hid sm0
  clear b sm0 G0 G1
  cases q0 : decide (z0 < 0)
  case' true =>
    clear X2 X3 X4 X5
    go_wp2
    go_ret
    exact SzP.neg h0 B.out
  have p0 : 0 ≤ z0 := by have := of_decide_eq_false q0; omega
  go_wp2_with fail
  refine (sz_ints _ x.asked fp2 z0 (by omega) (by omega) _ G2.out).mono ?_
  rintro e w2 ⟨z1, rfl, le1, sm1, b⟩
  replace X3 := keep_cell b X3
  replace X4 := keep_cell b X4
  replace X5 := keep_cell b X5
  replace G3 := Lib.hid (SlR.below jobR_fits G3.out b)
  replace G4 := Lib.hid (SlR.below jobR_fits G4.out b)
  replace G5 := Lib.hid (SlR.below jobR_fits G5.out b)
  replace B := Lib.hid (B.out.trans (b.mono B.out.size))
  have S1 := Lib.hid sm1
  clear b sm1 G2
  cases q1 : decide (z1 < 0)
  case' true =>
    clear X3 X4 X5
    go_wp2
    go_ret
    exact SzP.neg h0 B.out
  have p1 : 0 ≤ z1 := by have := of_decide_eq_false q1; omega
  go_wp2_with fail
  refine (sz_jobs _ x.wait fp3 z1 (by omega) (by omega) _ G3.out).mono ?_
  rintro e w3 ⟨z2, rfl, le2, sm2, b⟩
  replace X4 := keep_cell b X4
  replace X5 := keep_cell b X5
  replace G4 := Lib.hid (SlR.below jobR_fits G4.out b)
  replace G5 := Lib.hid (SlR.below jobR_fits G5.out b)
  replace B := Lib.hid (B.out.trans (b.mono B.out.size))
  have S2 := Lib.hid sm2
  clear b sm2 G3
  cases q2 : decide (z2 < 0)
  case' true =>
    clear X4 X5
    go_wp2
    go_ret
    exact SzP.neg h0 B.out
  have p2 : 0 ≤ z2 := by have := of_decide_eq_false q2; omega
  go_wp2_with fail
  refine (sz_jobs _ x.done fp4 z2 (by omega) (by omega) _ G4.out).mono ?_
  rintro e w4 ⟨z3, rfl, le3, sm3, b⟩
  replace X5 := keep_cell b X5
  replace G5 := Lib.hid (SlR.below jobR_fits G5.out b)
  replace B := Lib.hid (B.out.trans (b.mono B.out.size))
  have S3 := Lib.hid sm3
  clear b sm3 G4
  cases q3 : decide (z3 < 0)
  case' true =>
    clear X5
    go_wp2
    go_ret
    exact SzP.neg h0 B.out
  have p3 : 0 ≤ z3 := by have := of_decide_eq_false q3; omega
  go_wp2_with fail
  refine (sz_jobs _ x.told fp5 z3 (by omega) (by omega) _ G5.out).mono ?_
  rintro e w5 ⟨z4, rfl, le4, sm4, b⟩
  replace B := Lib.hid (B.out.trans (b.mono B.out.size))
  have S4 := Lib.hid sm4
  clear b sm4 G5
  cases q4 : decide (z4 < 0)
  case' true =>
    skip
    go_wp2
    go_ret
    exact SzP.neg h0 B.out
  have p4 : 0 ≤ z4 := by have := of_decide_eq_false q4; omega
  go_wp2
  go_ret
  exact SzP.pos (by omega) ⟨S0.out (by omega), S1.out (by omega), S2.out (by omega), S3.out (by omega), S4.out (by omega)⟩ B.out

set_option maxRecDepth 100000 in
set_option maxHeartbeats 3200000 in
theorem eq_Tlm (x y : Tlm) (v0 v1 v2 v3 v4 v5 u0 u1 u2 u3 u4 u5 : Value) (fp0 fp1 fp2 fp3 fp4 fp5 fq0 fq1 fq2 fq3 fq4 fq5 : List Nat) (w : World) (g0 : SlR 1 intR w x.atm.mem v0 fp0) (g1 : SlR 1 intR w x.atm.holds v1 fp1) (g2 : SlR 1 intR w x.asked v2 fp2) (g3 : SlR 5 jobR w x.wait v3 fp3) (g4 : SlR 5 jobR w x.done v4 fp4) (g5 : SlR 5 jobR w x.told v5 fp5) (k0 : SlR 1 intR w y.atm.mem u0 fq0) (k1 : SlR 1 intR w y.atm.holds u1 fq1) (k2 : SlR 1 intR w y.asked u2 fq2) (k3 : SlR 5 jobR w y.wait u3 fq3) (k4 : SlR 5 jobR w y.done u4 fq4) (k5 : SlR 5 jobR w y.told u5 fq5) :
    Calls Try.prog 39 #[.agg #[v0, v1, v2, v3, v4, v5], .agg #[u0, u1, u2, u3, u4, u5]] w fun e w' => e = .returned (.bool (decide (x = y))) ∧ Below w.heap.size w w' := by
  have hb : Below w.heap.size w ((w.alloc (.cells #[v0, v1, v2, v3, v4, v5] 69)).alloc (.cells #[u0, u1, u2, u3, u4, u5] 69)) := ((Below.refl _ _).alloc (Nat.le_refl _) _).alloc (by simp) _
  have G0 := Lib.hid (SlR.below intR_fits g0 hb)
  have K0 := Lib.hid (SlR.below intR_fits k0 hb)
  have G1 := Lib.hid (SlR.below intR_fits g1 hb)
  have K1 := Lib.hid (SlR.below intR_fits k1 hb)
  have G2 := Lib.hid (SlR.below intR_fits g2 hb)
  have K2 := Lib.hid (SlR.below intR_fits k2 hb)
  have G3 := Lib.hid (SlR.below jobR_fits g3 hb)
  have K3 := Lib.hid (SlR.below jobR_fits k3 hb)
  have G4 := Lib.hid (SlR.below jobR_fits g4 hb)
  have K4 := Lib.hid (SlR.below jobR_fits k4 hb)
  have G5 := Lib.hid (SlR.below jobR_fits g5 hb)
  have K5 := Lib.hid (SlR.below jobR_fits k5 hb)
  have B := Lib.hid hb
  have HD := Lib.hid (show decide (x = y) = (decide (x.atm = y.atm) && decide (x.asked = y.asked) && decide (x.wait = y.wait) && decide (x.done = y.done) && decide (x.told = y.told)) by cases x; cases y; simp [Bool.and_assoc])
  clear hb g0 k0 g1 k1 g2 k2 g3 k3 g4 k4 g5 k5
  go_enter Try.func39, Try.ntmps39
  go_wp2_with fail
  refine (eq_Atm x.atm y.atm _ _ _ _ fp0 fp1 fq0 fq1 _ G0.out G1.out K0.out K1.out).mono ?_
  rintro e w1 ⟨rfl, b⟩
  have X2 := keep_cell b (alloc2_old w _ _ _ _ 2 rfl)
  have X3 := keep_cell b (alloc2_old w _ _ _ _ 3 rfl)
  have X4 := keep_cell b (alloc2_old w _ _ _ _ 4 rfl)
  have X5 := keep_cell b (alloc2_old w _ _ _ _ 5 rfl)
  have Y2 := keep_cell b (alloc2_new w _ _ _ _ 2 rfl)
  have Y3 := keep_cell b (alloc2_new w _ _ _ _ 3 rfl)
  have Y4 := keep_cell b (alloc2_new w _ _ _ _ 4 rfl)
  have Y5 := keep_cell b (alloc2_new w _ _ _ _ 5 rfl)
  replace G2 := Lib.hid (SlR.below intR_fits G2.out b)
  replace K2 := Lib.hid (SlR.below intR_fits K2.out b)
  replace G3 := Lib.hid (SlR.below jobR_fits G3.out b)
  replace K3 := Lib.hid (SlR.below jobR_fits K3.out b)
  replace G4 := Lib.hid (SlR.below jobR_fits G4.out b)
  replace K4 := Lib.hid (SlR.below jobR_fits K4.out b)
  replace G5 := Lib.hid (SlR.below jobR_fits G5.out b)
  replace K5 := Lib.hid (SlR.below jobR_fits K5.out b)
  replace B := Lib.hid (B.out.trans (b.mono B.out.size))
  clear b G0 K0 G1 K1
  cases e0 : decide (x.atm = y.atm)
  case' false =>
    have E0 := Lib.hid e0
    clear e0 X2 Y2 X3 Y3 X4 Y4 X5 Y5
    go_wp2
    go_ret
    exact ⟨ret_bool (by rw [HD.out, E0.out]; simp), B.out⟩
  have E0 := Lib.hid e0
  clear e0
  go_wp2_with fail
  refine (eq_ints _ _ x.asked y.asked fp2 fq2 _ G2.out K2.out).mono ?_
  rintro e w2 ⟨rfl, b⟩
  replace X3 := keep_cell b X3
  replace Y3 := keep_cell b Y3
  replace X4 := keep_cell b X4
  replace Y4 := keep_cell b Y4
  replace X5 := keep_cell b X5
  replace Y5 := keep_cell b Y5
  replace G3 := Lib.hid (SlR.below jobR_fits G3.out b)
  replace K3 := Lib.hid (SlR.below jobR_fits K3.out b)
  replace G4 := Lib.hid (SlR.below jobR_fits G4.out b)
  replace K4 := Lib.hid (SlR.below jobR_fits K4.out b)
  replace G5 := Lib.hid (SlR.below jobR_fits G5.out b)
  replace K5 := Lib.hid (SlR.below jobR_fits K5.out b)
  replace B := Lib.hid (B.out.trans (b.mono B.out.size))
  clear b G2 K2
  cases e1 : decide (x.asked = y.asked)
  case' false =>
    have E1 := Lib.hid e1
    clear e1 X3 Y3 X4 Y4 X5 Y5
    go_wp2
    go_ret
    exact ⟨ret_bool (by rw [HD.out, E0.out, E1.out]; simp), B.out⟩
  have E1 := Lib.hid e1
  clear e1
  go_wp2_with fail
  refine (eq_jobs _ _ x.wait y.wait fp3 fq3 _ G3.out K3.out).mono ?_
  rintro e w3 ⟨rfl, b⟩
  replace X4 := keep_cell b X4
  replace Y4 := keep_cell b Y4
  replace X5 := keep_cell b X5
  replace Y5 := keep_cell b Y5
  replace G4 := Lib.hid (SlR.below jobR_fits G4.out b)
  replace K4 := Lib.hid (SlR.below jobR_fits K4.out b)
  replace G5 := Lib.hid (SlR.below jobR_fits G5.out b)
  replace K5 := Lib.hid (SlR.below jobR_fits K5.out b)
  replace B := Lib.hid (B.out.trans (b.mono B.out.size))
  clear b G3 K3
  cases e2 : decide (x.wait = y.wait)
  case' false =>
    have E2 := Lib.hid e2
    clear e2 X4 Y4 X5 Y5
    go_wp2
    go_ret
    exact ⟨ret_bool (by rw [HD.out, E0.out, E1.out, E2.out]; simp), B.out⟩
  have E2 := Lib.hid e2
  clear e2
  go_wp2_with fail
  refine (eq_jobs _ _ x.done y.done fp4 fq4 _ G4.out K4.out).mono ?_
  rintro e w4 ⟨rfl, b⟩
  replace X5 := keep_cell b X5
  replace Y5 := keep_cell b Y5
  replace G5 := Lib.hid (SlR.below jobR_fits G5.out b)
  replace K5 := Lib.hid (SlR.below jobR_fits K5.out b)
  replace B := Lib.hid (B.out.trans (b.mono B.out.size))
  clear b G4 K4
  cases e3 : decide (x.done = y.done)
  case' false =>
    have E3 := Lib.hid e3
    clear e3 X5 Y5
    go_wp2
    go_ret
    exact ⟨ret_bool (by rw [HD.out, E0.out, E1.out, E2.out, E3.out]; simp), B.out⟩
  have E3 := Lib.hid e3
  clear e3
  go_wp2_with fail
  refine (eq_jobs _ _ x.told y.told fp5 fq5 _ G5.out K5.out).mono ?_
  rintro e w5 ⟨rfl, b⟩
  replace B := Lib.hid (B.out.trans (b.mono B.out.size))
  clear b G5 K5
  cases e4 : decide (x.told = y.told)
  case' false =>
    have E4 := Lib.hid e4
    clear e4 
    go_wp2
    go_ret
    exact ⟨ret_bool (by rw [HD.out, E0.out, E1.out, E2.out, E3.out, E4.out]; simp), B.out⟩
  have E4 := Lib.hid e4
  clear e4
  go_wp2
  go_ret
  exact ⟨ret_bool (by rw [HD.out,E0.out, E1.out, E2.out, E3.out, E4.out]; rfl), B.out⟩

set_option maxRecDepth 100000 in
set_option maxHeartbeats 3200000 in
theorem to_Tlm (x : Tlm) (v0 v1 v2 v3 v4 v5 : Value) (fp0 fp1 fp2 fp3 fp4 fp5 : List Nat) (hs : sm_Tlm x) (w : World) (g0 : SlR 1 intR w x.atm.mem v0 fp0) (g1 : SlR 1 intR w x.atm.holds v1 fp1) (g2 : SlR 1 intR w x.asked v2 fp2) (g3 : SlR 5 jobR w x.wait v3 fp3) (g4 : SlR 5 jobR w x.done v4 fp4) (g5 : SlR 5 jobR w x.told v5 fp5) :
    Calls Try.prog 37 #[.agg #[v0, v1, v2, v3, v4, v5]] w fun e w' => ∃ v'0 fq0 v'1 fq1 v'2 fq2 v'3 fq3 v'4 fq4 v'5 fq5, e = .returned (.agg #[v'0, v'1, v'2, v'3, v'4, v'5]) ∧ SlR 1 intR w' x.atm.mem v'0 fq0 ∧ SlR 1 intR w' x.atm.holds v'1 fq1 ∧ SlR 1 intR w' x.asked v'2 fq2 ∧ SlR 5 jobR w' x.wait v'3 fq3 ∧ SlR 5 jobR w' x.done v'4 fq4 ∧ SlR 5 jobR w' x.told v'5 fq5 ∧ New (fq0 ++ fq1 ++ fq2 ++ fq3 ++ fq4 ++ fq5) w w' ∧ Below w.heap.size w w' := by
  have G0 := Lib.hid g0
  have G1 := Lib.hid g1
  have G2 := Lib.hid g2
  have G3 := Lib.hid g3
  have G4 := Lib.hid g4
  have G5 := Lib.hid g5
  have HS := Lib.hid hs
  clear hs g0 g1 g2 g3 g4 g5
  go_enter Try.func37, Try.ntmps37
  go_wp2_with fail
  refine (to_Atm x.atm _ _ fp0 fp1 (HS.out.1) _ (G0.out.below intR_fits (below3 w _ _ _)) (G1.out.below intR_fits (below3 w _ _ _))).mono ?_
  rintro e w1 ⟨v'0, fq0, v'1, fq1, rfl, r0, r1, n0, b0⟩
  obtain ⟨a0, l0, k0, rfl⟩ := r0.form
  obtain ⟨a1, l1, k1, rfl⟩ := r1.form
  have X0 : w1.cell? ⟨w.heap.size, 0, none⟩ = some (v0) := keep_cell b0 (alloc_keep (alloc_keep (alloc1_new w _ _ 0 rfl) _) _)
  have X1 : w1.cell? ⟨w.heap.size, 1, none⟩ = some (v1) := keep_cell b0 (alloc_keep (alloc_keep (alloc1_new w _ _ 1 rfl) _) _)
  have X2 : w1.cell? ⟨w.heap.size, 2, none⟩ = some (v2) := keep_cell b0 (alloc_keep (alloc_keep (alloc1_new w _ _ 2 rfl) _) _)
  have X3 : w1.cell? ⟨w.heap.size, 3, none⟩ = some (v3) := keep_cell b0 (alloc_keep (alloc_keep (alloc1_new w _ _ 3 rfl) _) _)
  have X4 : w1.cell? ⟨w.heap.size, 4, none⟩ = some (v4) := keep_cell b0 (alloc_keep (alloc_keep (alloc1_new w _ _ 4 rfl) _) _)
  have X5 : w1.cell? ⟨w.heap.size, 5, none⟩ = some (v5) := keep_cell b0 (alloc_keep (alloc_keep (alloc1_new w _ _ 5 rfl) _) _)
  have M0 : w1.cell? ⟨w.heap.size + 1, 0, none⟩ = some (.slice none 0 0) := keep_cell b0 (alloc3_mid w _ _ _ _ _ 0 rfl)
  have M1 : w1.cell? ⟨w.heap.size + 1, 1, none⟩ = some (.slice none 0 0) := keep_cell b0 (alloc3_mid w _ _ _ _ _ 1 rfl)
  have M2 : w1.cell? ⟨w.heap.size + 1, 2, none⟩ = some (.slice none 0 0) := keep_cell b0 (alloc3_mid w _ _ _ _ _ 2 rfl)
  have M3 : w1.cell? ⟨w.heap.size + 1, 3, none⟩ = some (.slice none 0 0) := keep_cell b0 (alloc3_mid w _ _ _ _ _ 3 rfl)
  have M4 : w1.cell? ⟨w.heap.size + 1, 4, none⟩ = some (.slice none 0 0) := keep_cell b0 (alloc3_mid w _ _ _ _ _ 4 rfl)
  have M5 : w1.cell? ⟨w.heap.size + 1, 5, none⟩ = some (.slice none 0 0) := keep_cell b0 (alloc3_mid w _ _ _ _ _ 5 rfl)
  have O0 : w1.cell? ⟨w.heap.size + 1 + 1, 0, none⟩ = some (.slice none 0 0) := keep_cell b0 (alloc3_new w _ _ _ _ _ 0 rfl)
  have O1 : w1.cell? ⟨w.heap.size + 1 + 1, 1, none⟩ = some (.slice none 0 0) := keep_cell b0 (alloc3_new w _ _ _ _ _ 1 rfl)
  have O2 : w1.cell? ⟨w.heap.size + 1 + 1, 2, none⟩ = some (.slice none 0 0) := keep_cell b0 (alloc3_new w _ _ _ _ _ 2 rfl)
  have O3 : w1.cell? ⟨w.heap.size + 1 + 1, 3, none⟩ = some (.slice none 0 0) := keep_cell b0 (alloc3_new w _ _ _ _ _ 3 rfl)
  have O4 : w1.cell? ⟨w.heap.size + 1 + 1, 4, none⟩ = some (.slice none 0 0) := keep_cell b0 (alloc3_new w _ _ _ _ _ 4 rfl)
  have O5 : w1.cell? ⟨w.heap.size + 1 + 1, 5, none⟩ = some (.slice none 0 0) := keep_cell b0 (alloc3_new w _ _ _ _ _ 5 rfl)
  have f10 := keep_free b0 (by simp) (alloc3_free w _ _ _ _ _ _ 0 (.inl rfl))
  have f11 := keep_free b0 (by simp) (alloc3_free w _ _ _ _ _ _ 1 (.inl rfl))
  have f12 := keep_free b0 (by simp) (alloc3_free w _ _ _ _ _ _ 2 (.inl rfl))
  have f13 := keep_free b0 (by simp) (alloc3_free w _ _ _ _ _ _ 3 (.inl rfl))
  have f14 := keep_free b0 (by simp) (alloc3_free w _ _ _ _ _ _ 4 (.inl rfl))
  have f15 := keep_free b0 (by simp) (alloc3_free w _ _ _ _ _ _ 5 (.inl rfl))
  have f20 := keep_free b0 (by simp) (alloc3_free w _ _ _ _ _ _ 0 (.inr rfl))
  have f21 := keep_free b0 (by simp) (alloc3_free w _ _ _ _ _ _ 1 (.inr rfl))
  have f22 := keep_free b0 (by simp) (alloc3_free w _ _ _ _ _ _ 2 (.inr rfl))
  have f23 := keep_free b0 (by simp) (alloc3_free w _ _ _ _ _ _ 3 (.inr rfl))
  have f24 := keep_free b0 (by simp) (alloc3_free w _ _ _ _ _ _ 4 (.inr rfl))
  have f25 := keep_free b0 (by simp) (alloc3_free w _ _ _ _ _ _ 5 (.inr rfl))
  have hB : Below w.heap.size w w1 := (below3 w _ _ _).trans (b0.mono (by simp; omega))
  have hlo0 : ∀ b, b ∈ fq0 ++ fq1 → w.heap.size + 1 + 1 < b := fun b hb => by have := n0.lo b hb; simp at this; omega
  have hz : w.heap.size + 1 + 1 < w1.heap.size := by have := b0.size; simp at this; omega
  have L0 : Hid (∀ b, b ∈ fq0 ++ fq1 → w.heap.size + 1 + 1 < b) := Lib.hid (fun b hb => by have := hlo0 b hb; omega)
  have D1 := Lib.hid ((hB.setCell (p := ⟨w.heap.size + 1 + 1, 0, none⟩) (by simp; omega) (.slice a0 l0 k0)).setCell (p := ⟨w.heap.size + 1 + 1, 1, none⟩) (by simp; omega) (.slice a1 l1 k1))
  have Z1 := Lib.hid hz
  have ON0 := Lib.hid n0.once
  have FR0 := Lib.hid n0.free
  have LT0 : Hid (∀ b, b ∈ fq0 ++ fq1 → b < w1.heap.size) := Lib.hid (all_app (T := fun b => b < w1.heap.size) (r0.lt intR_fits) (r1.lt intR_fits))
  have HR0 := Lib.hid r0
  have HR1 := Lib.hid r1
  have HhB := Lib.hid hB
  have Hz := Lib.hid hz
  clear r0 r1 n0 b0 hB hlo0 hz
  go_wp2_with fail
  have r0 := HR0.out
  have r1 := HR1.out
  have hB := HhB.out
  have hz := Hz.out
  clear HhB Hz HR0 HR1
  refine (to_ints _ x.asked fp2 (HS.out.2.1) _ (G2.out.below intR_fits D1.out)).mono ?_
  rintro e w2 ⟨v'2, fq2, rfl, r2, n1, b1⟩
  obtain ⟨a2, l2, k2, rfl⟩ := r2.form
  have X0' := keep_cell b1 ((World.cell?_setCell_other _ _ _ _ (by simp)).trans ((World.cell?_setCell_other _ _ _ _ (by simp)).trans X0))
  have X1' := keep_cell b1 ((World.cell?_setCell_other _ _ _ _ (by simp)).trans ((World.cell?_setCell_other _ _ _ _ (by simp)).trans X1))
  have X2' := keep_cell b1 ((World.cell?_setCell_other _ _ _ _ (by simp)).trans ((World.cell?_setCell_other _ _ _ _ (by simp)).trans X2))
  have X3' := keep_cell b1 ((World.cell?_setCell_other _ _ _ _ (by simp)).trans ((World.cell?_setCell_other _ _ _ _ (by simp)).trans X3))
  have X4' := keep_cell b1 ((World.cell?_setCell_other _ _ _ _ (by simp)).trans ((World.cell?_setCell_other _ _ _ _ (by simp)).trans X4))
  have X5' := keep_cell b1 ((World.cell?_setCell_other _ _ _ _ (by simp)).trans ((World.cell?_setCell_other _ _ _ _ (by simp)).trans X5))
  have M0' := keep_cell b1 ((World.cell?_setCell_other _ _ _ _ (by simp)).trans ((World.cell?_setCell_other _ _ _ _ (by simp)).trans M0))
  have M1' := keep_cell b1 ((World.cell?_setCell_other _ _ _ _ (by simp)).trans ((World.cell?_setCell_other _ _ _ _ (by simp)).trans M1))
  have M2' := keep_cell b1 ((World.cell?_setCell_other _ _ _ _ (by simp)).trans ((World.cell?_setCell_other _ _ _ _ (by simp)).trans M2))
  have M3' := keep_cell b1 ((World.cell?_setCell_other _ _ _ _ (by simp)).trans ((World.cell?_setCell_other _ _ _ _ (by simp)).trans M3))
  have M4' := keep_cell b1 ((World.cell?_setCell_other _ _ _ _ (by simp)).trans ((World.cell?_setCell_other _ _ _ _ (by simp)).trans M4))
  have M5' := keep_cell b1 ((World.cell?_setCell_other _ _ _ _ (by simp)).trans ((World.cell?_setCell_other _ _ _ _ (by simp)).trans M5))
  have O0' := keep_cell b1 ((World.cell?_setCell_other _ _ _ _ (by simp)).trans (World.cell?_setCell_same _ _ _ O0))
  have O1' := keep_cell b1 (World.cell?_setCell_same _ _ _ ((World.cell?_setCell_other _ _ _ _ (by simp)).trans O1))
  have O2' := keep_cell b1 ((World.cell?_setCell_other _ _ _ _ (by simp)).trans ((World.cell?_setCell_other _ _ _ _ (by simp)).trans O2))
  have O3' := keep_cell b1 ((World.cell?_setCell_other _ _ _ _ (by simp)).trans ((World.cell?_setCell_other _ _ _ _ (by simp)).trans O3))
  have O4' := keep_cell b1 ((World.cell?_setCell_other _ _ _ _ (by simp)).trans ((World.cell?_setCell_other _ _ _ _ (by simp)).trans O4))
  have O5' := keep_cell b1 ((World.cell?_setCell_other _ _ _ _ (by simp)).trans ((World.cell?_setCell_other _ _ _ _ (by simp)).trans O5))
  have f10' : w2.frozen? ⟨w.heap.size + 1, 0, none⟩ = false := keep_free b1 (by simp; omega) (by simpa using f10)
  have f11' : w2.frozen? ⟨w.heap.size + 1, 1, none⟩ = false := keep_free b1 (by simp; omega) (by simpa using f11)
  have f12' : w2.frozen? ⟨w.heap.size + 1, 2, none⟩ = false := keep_free b1 (by simp; omega) (by simpa using f12)
  have f13' : w2.frozen? ⟨w.heap.size + 1, 3, none⟩ = false := keep_free b1 (by simp; omega) (by simpa using f13)
  have f14' : w2.frozen? ⟨w.heap.size + 1, 4, none⟩ = false := keep_free b1 (by simp; omega) (by simpa using f14)
  have f15' : w2.frozen? ⟨w.heap.size + 1, 5, none⟩ = false := keep_free b1 (by simp; omega) (by simpa using f15)
  have f20' : w2.frozen? ⟨w.heap.size + 1 + 1, 0, none⟩ = false := keep_free b1 (by simp; omega) (by simpa using f20)
  have f21' : w2.frozen? ⟨w.heap.size + 1 + 1, 1, none⟩ = false := keep_free b1 (by simp; omega) (by simpa using f21)
  have f22' : w2.frozen? ⟨w.heap.size + 1 + 1, 2, none⟩ = false := keep_free b1 (by simp; omega) (by simpa using f22)
  have f23' : w2.frozen? ⟨w.heap.size + 1 + 1, 3, none⟩ = false := keep_free b1 (by simp; omega) (by simpa using f23)
  have f24' : w2.frozen? ⟨w.heap.size + 1 + 1, 4, none⟩ = false := keep_free b1 (by simp; omega) (by simpa using f24)
  have f25' : w2.frozen? ⟨w.heap.size + 1 + 1, 5, none⟩ = false := keep_free b1 (by simp; omega) (by simpa using f25)
  clear X0 M0 O0 f10 f20 X1 M1 O1 f11 f21 X2 M2 O2 f12 f22 X3 M3 O3 f13 f23 X4 M4 O4 f14 f24 X5 M5 O5 f15 f25
  have X0 := X0'
  have X1 := X1'
  have X2 := X2'
  have X3 := X3'
  have X4 := X4'
  have X5 := X5'
  clear X0' X1' X2' X3' X4' X5'
  have M0 := M0'
  have M1 := M1'
  have M2 := M2'
  have M3 := M3'
  have M4 := M4'
  have M5 := M5'
  clear M0' M1' M2' M3' M4' M5'
  have O0 := O0'
  have O1 := O1'
  have O2 := O2'
  have O3 := O3'
  have O4 := O4'
  have O5 := O5'
  clear O0' O1' O2' O3' O4' O5'
  have f10 := f10'
  have f11 := f11'
  have f12 := f12'
  have f13 := f13'
  have f14 := f14'
  have f15 := f15'
  clear f10' f11' f12' f13' f14' f15'
  have f20 := f20'
  have f21 := f21'
  have f22 := f22'
  have f23 := f23'
  have f24 := f24'
  have f25 := f25'
  clear f20' f21' f22' f23' f24' f25'
  have hB2 : Below w.heap.size w w2 := D1.out.trans (b1.mono (by have := D1.out.size; exact this))
  clear hB
  have hB := hB2
  clear hB2
  have hlo1 : ∀ b, b ∈ fq2 → w1.heap.size ≤ b := fun b hb => by have := n1.lo b hb; simpa using this
  have hz2 : w.heap.size + 1 + 1 < w2.heap.size := by have := b1.size; simp at this; omega
  clear hz
  have hz := hz2
  clear hz2
  have DJ0_1 : Hid (∀ b, b ∈ fq0 ++ fq1 → b ∉ fq2) := Lib.hid (fun b hb hb2 => by have := LT0.out b hb; have := hlo1 b hb2; omega)
  have hsm : Same (fq0 ++ fq1) w1 ((w1.setCell ⟨w.heap.size + 1 + 1, 0, none⟩ (.slice a0 l0 k0)).setCell ⟨w.heap.size + 1 + 1, 1, none⟩ (.slice a1 l1 k1)) := fun b hb => by have := L0.out b hb; rw [Below.heap_setCell _ _ _ _ (by simp; omega), Below.heap_setCell _ _ _ _ (by simp; omega)]
  have ht : ∀ b, b ∈ fq0 ++ fq1 → b < ((w1.setCell ⟨w.heap.size + 1 + 1, 0, none⟩ (.slice a0 l0 k0)).setCell ⟨w.heap.size + 1 + 1, 1, none⟩ (.slice a1 l1 k1)).heap.size := fun b hb => by have := LT0.out b hb; simp; omega
  have hf : Free (fq0 ++ fq1) w2 := (Free.same (w' := ((w1.setCell ⟨w.heap.size + 1 + 1, 0, none⟩ (.slice a0 l0 k0)).setCell ⟨w.heap.size + 1 + 1, 1, none⟩ (.slice a1 l1 k1))) FR0.out hsm).below ht b1
  have hl : ∀ b, b ∈ fq0 ++ fq1 → b < w2.heap.size := fun b hb => by have := ht b hb; have := b1.size; omega
  clear FR0 LT0 ht
  have FR0 := Lib.hid hf
  have LT0 := Lib.hid hl
  clear hf hl
  have r0' := (r0.same intR_fits (w' := ((w1.setCell ⟨w.heap.size + 1 + 1, 0, none⟩ (.slice a0 l0 k0)).setCell ⟨w.heap.size + 1 + 1, 1, none⟩ (.slice a1 l1 k1))) (hsm.mono (fun b hb => by simp [hb])) (by simp)).below intR_fits b1
  clear r0
  have r0 := r0'
  clear r0'
  have r1' := (r1.same intR_fits (w' := ((w1.setCell ⟨w.heap.size + 1 + 1, 0, none⟩ (.slice a0 l0 k0)).setCell ⟨w.heap.size + 1 + 1, 1, none⟩ (.slice a1 l1 k1))) (hsm.mono (fun b hb => by simp [hb])) (by simp)).below intR_fits b1
  clear r1
  have r1 := r1'
  clear r1'
  clear hsm
  have L1 : Hid (∀ b, b ∈ fq2 → w.heap.size + 1 + 1 < b) := Lib.hid (fun b hb => by have := hlo1 b hb; have := Z1.out; omega)
  have D2 := Lib.hid (hB.setCell (p := ⟨w.heap.size + 1 + 1, 2, none⟩) (by simp; omega) (.slice a2 l2 k2))
  have Z2 := Lib.hid hz
  have ON1 := Lib.hid n1.once
  have FR1 := Lib.hid n1.free
  have LT1 : Hid (∀ b, b ∈ fq2 → b < w2.heap.size) := Lib.hid (r2.lt intR_fits)
  have HR0 := Lib.hid r0
  have HR1 := Lib.hid r1
  have HR2 := Lib.hid r2
  have HhB := Lib.hid hB
  have Hz := Lib.hid hz
  clear r0 r1 r2 n1 b1 hB hlo1 hz
  go_wp2_with fail
  have r0 := HR0.out
  have r1 := HR1.out
  have r2 := HR2.out
  have hB := HhB.out
  have hz := Hz.out
  clear HhB Hz HR0 HR1 HR2
  refine (to_jobs _ x.wait fp3 (HS.out.2.2.1) _ (G3.out.below jobR_fits D2.out)).mono ?_
  rintro e w3 ⟨v'3, fq3, rfl, r3, n2, b2⟩
  obtain ⟨a3, l3, k3, rfl⟩ := r3.form
  have X0' := keep_cell b2 ((World.cell?_setCell_other _ _ _ _ (by simp)).trans X0)
  have X1' := keep_cell b2 ((World.cell?_setCell_other _ _ _ _ (by simp)).trans X1)
  have X2' := keep_cell b2 ((World.cell?_setCell_other _ _ _ _ (by simp)).trans X2)
  have X3' := keep_cell b2 ((World.cell?_setCell_other _ _ _ _ (by simp)).trans X3)
  have X4' := keep_cell b2 ((World.cell?_setCell_other _ _ _ _ (by simp)).trans X4)
  have X5' := keep_cell b2 ((World.cell?_setCell_other _ _ _ _ (by simp)).trans X5)
  have M0' := keep_cell b2 ((World.cell?_setCell_other _ _ _ _ (by simp)).trans M0)
  have M1' := keep_cell b2 ((World.cell?_setCell_other _ _ _ _ (by simp)).trans M1)
  have M2' := keep_cell b2 ((World.cell?_setCell_other _ _ _ _ (by simp)).trans M2)
  have M3' := keep_cell b2 ((World.cell?_setCell_other _ _ _ _ (by simp)).trans M3)
  have M4' := keep_cell b2 ((World.cell?_setCell_other _ _ _ _ (by simp)).trans M4)
  have M5' := keep_cell b2 ((World.cell?_setCell_other _ _ _ _ (by simp)).trans M5)
  have O0' := keep_cell b2 ((World.cell?_setCell_other _ _ _ _ (by simp)).trans O0)
  have O1' := keep_cell b2 ((World.cell?_setCell_other _ _ _ _ (by simp)).trans O1)
  have O2' := keep_cell b2 (World.cell?_setCell_same _ _ _ O2)
  have O3' := keep_cell b2 ((World.cell?_setCell_other _ _ _ _ (by simp)).trans O3)
  have O4' := keep_cell b2 ((World.cell?_setCell_other _ _ _ _ (by simp)).trans O4)
  have O5' := keep_cell b2 ((World.cell?_setCell_other _ _ _ _ (by simp)).trans O5)
  have f10' : w3.frozen? ⟨w.heap.size + 1, 0, none⟩ = false := keep_free b2 (by simp; omega) (by simpa using f10)
  have f11' : w3.frozen? ⟨w.heap.size + 1, 1, none⟩ = false := keep_free b2 (by simp; omega) (by simpa using f11)
  have f12' : w3.frozen? ⟨w.heap.size + 1, 2, none⟩ = false := keep_free b2 (by simp; omega) (by simpa using f12)
  have f13' : w3.frozen? ⟨w.heap.size + 1, 3, none⟩ = false := keep_free b2 (by simp; omega) (by simpa using f13)
  have f14' : w3.frozen? ⟨w.heap.size + 1, 4, none⟩ = false := keep_free b2 (by simp; omega) (by simpa using f14)
  have f15' : w3.frozen? ⟨w.heap.size + 1, 5, none⟩ = false := keep_free b2 (by simp; omega) (by simpa using f15)
  have f20' : w3.frozen? ⟨w.heap.size + 1 + 1, 0, none⟩ = false := keep_free b2 (by simp; omega) (by simpa using f20)
  have f21' : w3.frozen? ⟨w.heap.size + 1 + 1, 1, none⟩ = false := keep_free b2 (by simp; omega) (by simpa using f21)
  have f22' : w3.frozen? ⟨w.heap.size + 1 + 1, 2, none⟩ = false := keep_free b2 (by simp; omega) (by simpa using f22)
  have f23' : w3.frozen? ⟨w.heap.size + 1 + 1, 3, none⟩ = false := keep_free b2 (by simp; omega) (by simpa using f23)
  have f24' : w3.frozen? ⟨w.heap.size + 1 + 1, 4, none⟩ = false := keep_free b2 (by simp; omega) (by simpa using f24)
  have f25' : w3.frozen? ⟨w.heap.size + 1 + 1, 5, none⟩ = false := keep_free b2 (by simp; omega) (by simpa using f25)
  clear X0 M0 O0 f10 f20 X1 M1 O1 f11 f21 X2 M2 O2 f12 f22 X3 M3 O3 f13 f23 X4 M4 O4 f14 f24 X5 M5 O5 f15 f25
  have X0 := X0'
  have X1 := X1'
  have X2 := X2'
  have X3 := X3'
  have X4 := X4'
  have X5 := X5'
  clear X0' X1' X2' X3' X4' X5'
  have M0 := M0'
  have M1 := M1'
  have M2 := M2'
  have M3 := M3'
  have M4 := M4'
  have M5 := M5'
  clear M0' M1' M2' M3' M4' M5'
  have O0 := O0'
  have O1 := O1'
  have O2 := O2'
  have O3 := O3'
  have O4 := O4'
  have O5 := O5'
  clear O0' O1' O2' O3' O4' O5'
  have f10 := f10'
  have f11 := f11'
  have f12 := f12'
  have f13 := f13'
  have f14 := f14'
  have f15 := f15'
  clear f10' f11' f12' f13' f14' f15'
  have f20 := f20'
  have f21 := f21'
  have f22 := f22'
  have f23 := f23'
  have f24 := f24'
  have f25 := f25'
  clear f20' f21' f22' f23' f24' f25'
  have hB2 : Below w.heap.size w w3 := D2.out.trans (b2.mono (by have := D2.out.size; exact this))
  clear hB
  have hB := hB2
  clear hB2
  have hlo2 : ∀ b, b ∈ fq3 → w2.heap.size ≤ b := fun b hb => by have := n2.lo b hb; simpa using this
  have hz2 : w.heap.size + 1 + 1 < w3.heap.size := by have := b2.size; simp at this; omega
  clear hz
  have hz := hz2
  clear hz2
  have DJ0_2 : Hid (∀ b, b ∈ fq0 ++ fq1 → b ∉ fq3) := Lib.hid (fun b hb hb2 => by have := LT0.out b hb; have := hlo2 b hb2; omega)
  have hsm : Same (fq0 ++ fq1) w2 (w2.setCell ⟨w.heap.size + 1 + 1, 2, none⟩ (.slice a2 l2 k2)) := fun b hb => by have := L0.out b hb; rw [Below.heap_setCell _ _ _ _ (by simp; omega)]
  have ht : ∀ b, b ∈ fq0 ++ fq1 → b < (w2.setCell ⟨w.heap.size + 1 + 1, 2, none⟩ (.slice a2 l2 k2)).heap.size := fun b hb => by have := LT0.out b hb; simp; omega
  have hf : Free (fq0 ++ fq1) w3 := (Free.same (w' := (w2.setCell ⟨w.heap.size + 1 + 1, 2, none⟩ (.slice a2 l2 k2))) FR0.out hsm).below ht b2
  have hl : ∀ b, b ∈ fq0 ++ fq1 → b < w3.heap.size := fun b hb => by have := ht b hb; have := b2.size; omega
  clear FR0 LT0 ht
  have FR0 := Lib.hid hf
  have LT0 := Lib.hid hl
  clear hf hl
  have r0' := (r0.same intR_fits (w' := (w2.setCell ⟨w.heap.size + 1 + 1, 2, none⟩ (.slice a2 l2 k2))) (hsm.mono (fun b hb => by simp [hb])) (by simp)).below intR_fits b2
  clear r0
  have r0 := r0'
  clear r0'
  have r1' := (r1.same intR_fits (w' := (w2.setCell ⟨w.heap.size + 1 + 1, 2, none⟩ (.slice a2 l2 k2))) (hsm.mono (fun b hb => by simp [hb])) (by simp)).below intR_fits b2
  clear r1
  have r1 := r1'
  clear r1'
  clear hsm
  have DJ1_2 : Hid (∀ b, b ∈ fq2 → b ∉ fq3) := Lib.hid (fun b hb hb2 => by have := LT1.out b hb; have := hlo2 b hb2; omega)
  have hsm : Same (fq2) w2 (w2.setCell ⟨w.heap.size + 1 + 1, 2, none⟩ (.slice a2 l2 k2)) := fun b hb => by have := L1.out b hb; rw [Below.heap_setCell _ _ _ _ (by simp; omega)]
  have ht : ∀ b, b ∈ fq2 → b < (w2.setCell ⟨w.heap.size + 1 + 1, 2, none⟩ (.slice a2 l2 k2)).heap.size := fun b hb => by have := LT1.out b hb; simp; omega
  have hf : Free (fq2) w3 := (Free.same (w' := (w2.setCell ⟨w.heap.size + 1 + 1, 2, none⟩ (.slice a2 l2 k2))) FR1.out hsm).below ht b2
  have hl : ∀ b, b ∈ fq2 → b < w3.heap.size := fun b hb => by have := ht b hb; have := b2.size; omega
  clear FR1 LT1 ht
  have FR1 := Lib.hid hf
  have LT1 := Lib.hid hl
  clear hf hl
  have r2' := (r2.same intR_fits (w' := (w2.setCell ⟨w.heap.size + 1 + 1, 2, none⟩ (.slice a2 l2 k2))) (hsm.mono (fun b hb => by simp [hb])) (by simp)).below intR_fits b2
  clear r2
  have r2 := r2'
  clear r2'
  clear hsm
  have L2 : Hid (∀ b, b ∈ fq3 → w.heap.size + 1 + 1 < b) := Lib.hid (fun b hb => by have := hlo2 b hb; have := Z2.out; omega)
  have D3 := Lib.hid (hB.setCell (p := ⟨w.heap.size + 1 + 1, 3, none⟩) (by simp; omega) (.slice a3 l3 k3))
  have Z3 := Lib.hid hz
  have ON2 := Lib.hid n2.once
  have FR2 := Lib.hid n2.free
  have LT2 : Hid (∀ b, b ∈ fq3 → b < w3.heap.size) := Lib.hid (r3.lt jobR_fits)
  have HR0 := Lib.hid r0
  have HR1 := Lib.hid r1
  have HR2 := Lib.hid r2
  have HR3 := Lib.hid r3
  have HhB := Lib.hid hB
  have Hz := Lib.hid hz
  clear r0 r1 r2 r3 n2 b2 hB hlo2 hz
  go_wp2_with fail
  have r0 := HR0.out
  have r1 := HR1.out
  have r2 := HR2.out
  have r3 := HR3.out
  have hB := HhB.out
  have hz := Hz.out
  clear HhB Hz HR0 HR1 HR2 HR3
  refine (to_jobs _ x.done fp4 (HS.out.2.2.2.1) _ (G4.out.below jobR_fits D3.out)).mono ?_
  rintro e w4 ⟨v'4, fq4, rfl, r4, n3, b3⟩
  obtain ⟨a4, l4, k4, rfl⟩ := r4.form
  have X0' := keep_cell b3 ((World.cell?_setCell_other _ _ _ _ (by simp)).trans X0)
  have X1' := keep_cell b3 ((World.cell?_setCell_other _ _ _ _ (by simp)).trans X1)
  have X2' := keep_cell b3 ((World.cell?_setCell_other _ _ _ _ (by simp)).trans X2)
  have X3' := keep_cell b3 ((World.cell?_setCell_other _ _ _ _ (by simp)).trans X3)
  have X4' := keep_cell b3 ((World.cell?_setCell_other _ _ _ _ (by simp)).trans X4)
  have X5' := keep_cell b3 ((World.cell?_setCell_other _ _ _ _ (by simp)).trans X5)
  have M0' := keep_cell b3 ((World.cell?_setCell_other _ _ _ _ (by simp)).trans M0)
  have M1' := keep_cell b3 ((World.cell?_setCell_other _ _ _ _ (by simp)).trans M1)
  have M2' := keep_cell b3 ((World.cell?_setCell_other _ _ _ _ (by simp)).trans M2)
  have M3' := keep_cell b3 ((World.cell?_setCell_other _ _ _ _ (by simp)).trans M3)
  have M4' := keep_cell b3 ((World.cell?_setCell_other _ _ _ _ (by simp)).trans M4)
  have M5' := keep_cell b3 ((World.cell?_setCell_other _ _ _ _ (by simp)).trans M5)
  have O0' := keep_cell b3 ((World.cell?_setCell_other _ _ _ _ (by simp)).trans O0)
  have O1' := keep_cell b3 ((World.cell?_setCell_other _ _ _ _ (by simp)).trans O1)
  have O2' := keep_cell b3 ((World.cell?_setCell_other _ _ _ _ (by simp)).trans O2)
  have O3' := keep_cell b3 (World.cell?_setCell_same _ _ _ O3)
  have O4' := keep_cell b3 ((World.cell?_setCell_other _ _ _ _ (by simp)).trans O4)
  have O5' := keep_cell b3 ((World.cell?_setCell_other _ _ _ _ (by simp)).trans O5)
  have f10' : w4.frozen? ⟨w.heap.size + 1, 0, none⟩ = false := keep_free b3 (by simp; omega) (by simpa using f10)
  have f11' : w4.frozen? ⟨w.heap.size + 1, 1, none⟩ = false := keep_free b3 (by simp; omega) (by simpa using f11)
  have f12' : w4.frozen? ⟨w.heap.size + 1, 2, none⟩ = false := keep_free b3 (by simp; omega) (by simpa using f12)
  have f13' : w4.frozen? ⟨w.heap.size + 1, 3, none⟩ = false := keep_free b3 (by simp; omega) (by simpa using f13)
  have f14' : w4.frozen? ⟨w.heap.size + 1, 4, none⟩ = false := keep_free b3 (by simp; omega) (by simpa using f14)
  have f15' : w4.frozen? ⟨w.heap.size + 1, 5, none⟩ = false := keep_free b3 (by simp; omega) (by simpa using f15)
  have f20' : w4.frozen? ⟨w.heap.size + 1 + 1, 0, none⟩ = false := keep_free b3 (by simp; omega) (by simpa using f20)
  have f21' : w4.frozen? ⟨w.heap.size + 1 + 1, 1, none⟩ = false := keep_free b3 (by simp; omega) (by simpa using f21)
  have f22' : w4.frozen? ⟨w.heap.size + 1 + 1, 2, none⟩ = false := keep_free b3 (by simp; omega) (by simpa using f22)
  have f23' : w4.frozen? ⟨w.heap.size + 1 + 1, 3, none⟩ = false := keep_free b3 (by simp; omega) (by simpa using f23)
  have f24' : w4.frozen? ⟨w.heap.size + 1 + 1, 4, none⟩ = false := keep_free b3 (by simp; omega) (by simpa using f24)
  have f25' : w4.frozen? ⟨w.heap.size + 1 + 1, 5, none⟩ = false := keep_free b3 (by simp; omega) (by simpa using f25)
  clear X0 M0 O0 f10 f20 X1 M1 O1 f11 f21 X2 M2 O2 f12 f22 X3 M3 O3 f13 f23 X4 M4 O4 f14 f24 X5 M5 O5 f15 f25
  have X0 := X0'
  have X1 := X1'
  have X2 := X2'
  have X3 := X3'
  have X4 := X4'
  have X5 := X5'
  clear X0' X1' X2' X3' X4' X5'
  have M0 := M0'
  have M1 := M1'
  have M2 := M2'
  have M3 := M3'
  have M4 := M4'
  have M5 := M5'
  clear M0' M1' M2' M3' M4' M5'
  have O0 := O0'
  have O1 := O1'
  have O2 := O2'
  have O3 := O3'
  have O4 := O4'
  have O5 := O5'
  clear O0' O1' O2' O3' O4' O5'
  have f10 := f10'
  have f11 := f11'
  have f12 := f12'
  have f13 := f13'
  have f14 := f14'
  have f15 := f15'
  clear f10' f11' f12' f13' f14' f15'
  have f20 := f20'
  have f21 := f21'
  have f22 := f22'
  have f23 := f23'
  have f24 := f24'
  have f25 := f25'
  clear f20' f21' f22' f23' f24' f25'
  have hB2 : Below w.heap.size w w4 := D3.out.trans (b3.mono (by have := D3.out.size; exact this))
  clear hB
  have hB := hB2
  clear hB2
  have hlo3 : ∀ b, b ∈ fq4 → w3.heap.size ≤ b := fun b hb => by have := n3.lo b hb; simpa using this
  have hz2 : w.heap.size + 1 + 1 < w4.heap.size := by have := b3.size; simp at this; omega
  clear hz
  have hz := hz2
  clear hz2
  have DJ0_3 : Hid (∀ b, b ∈ fq0 ++ fq1 → b ∉ fq4) := Lib.hid (fun b hb hb2 => by have := LT0.out b hb; have := hlo3 b hb2; omega)
  have hsm : Same (fq0 ++ fq1) w3 (w3.setCell ⟨w.heap.size + 1 + 1, 3, none⟩ (.slice a3 l3 k3)) := fun b hb => by have := L0.out b hb; rw [Below.heap_setCell _ _ _ _ (by simp; omega)]
  have ht : ∀ b, b ∈ fq0 ++ fq1 → b < (w3.setCell ⟨w.heap.size + 1 + 1, 3, none⟩ (.slice a3 l3 k3)).heap.size := fun b hb => by have := LT0.out b hb; simp; omega
  have hf : Free (fq0 ++ fq1) w4 := (Free.same (w' := (w3.setCell ⟨w.heap.size + 1 + 1, 3, none⟩ (.slice a3 l3 k3))) FR0.out hsm).below ht b3
  have hl : ∀ b, b ∈ fq0 ++ fq1 → b < w4.heap.size := fun b hb => by have := ht b hb; have := b3.size; omega
  clear FR0 LT0 ht
  have FR0 := Lib.hid hf
  have LT0 := Lib.hid hl
  clear hf hl
  have r0' := (r0.same intR_fits (w' := (w3.setCell ⟨w.heap.size + 1 + 1, 3, none⟩ (.slice a3 l3 k3))) (hsm.mono (fun b hb => by simp [hb])) (by simp)).below intR_fits b3
  clear r0
  have r0 := r0'
  clear r0'
  have r1' := (r1.same intR_fits (w' := (w3.setCell ⟨w.heap.size + 1 + 1, 3, none⟩ (.slice a3 l3 k3))) (hsm.mono (fun b hb => by simp [hb])) (by simp)).below intR_fits b3
  clear r1
  have r1 := r1'
  clear r1'
  clear hsm
  have DJ1_3 : Hid (∀ b, b ∈ fq2 → b ∉ fq4) := Lib.hid (fun b hb hb2 => by have := LT1.out b hb; have := hlo3 b hb2; omega)
  have hsm : Same (fq2) w3 (w3.setCell ⟨w.heap.size + 1 + 1, 3, none⟩ (.slice a3 l3 k3)) := fun b hb => by have := L1.out b hb; rw [Below.heap_setCell _ _ _ _ (by simp; omega)]
  have ht : ∀ b, b ∈ fq2 → b < (w3.setCell ⟨w.heap.size + 1 + 1, 3, none⟩ (.slice a3 l3 k3)).heap.size := fun b hb => by have := LT1.out b hb; simp; omega
  have hf : Free (fq2) w4 := (Free.same (w' := (w3.setCell ⟨w.heap.size + 1 + 1, 3, none⟩ (.slice a3 l3 k3))) FR1.out hsm).below ht b3
  have hl : ∀ b, b ∈ fq2 → b < w4.heap.size := fun b hb => by have := ht b hb; have := b3.size; omega
  clear FR1 LT1 ht
  have FR1 := Lib.hid hf
  have LT1 := Lib.hid hl
  clear hf hl
  have r2' := (r2.same intR_fits (w' := (w3.setCell ⟨w.heap.size + 1 + 1, 3, none⟩ (.slice a3 l3 k3))) (hsm.mono (fun b hb => by simp [hb])) (by simp)).below intR_fits b3
  clear r2
  have r2 := r2'
  clear r2'
  clear hsm
  have DJ2_3 : Hid (∀ b, b ∈ fq3 → b ∉ fq4) := Lib.hid (fun b hb hb2 => by have := LT2.out b hb; have := hlo3 b hb2; omega)
  have hsm : Same (fq3) w3 (w3.setCell ⟨w.heap.size + 1 + 1, 3, none⟩ (.slice a3 l3 k3)) := fun b hb => by have := L2.out b hb; rw [Below.heap_setCell _ _ _ _ (by simp; omega)]
  have ht : ∀ b, b ∈ fq3 → b < (w3.setCell ⟨w.heap.size + 1 + 1, 3, none⟩ (.slice a3 l3 k3)).heap.size := fun b hb => by have := LT2.out b hb; simp; omega
  have hf : Free (fq3) w4 := (Free.same (w' := (w3.setCell ⟨w.heap.size + 1 + 1, 3, none⟩ (.slice a3 l3 k3))) FR2.out hsm).below ht b3
  have hl : ∀ b, b ∈ fq3 → b < w4.heap.size := fun b hb => by have := ht b hb; have := b3.size; omega
  clear FR2 LT2 ht
  have FR2 := Lib.hid hf
  have LT2 := Lib.hid hl
  clear hf hl
  have r3' := (r3.same jobR_fits (w' := (w3.setCell ⟨w.heap.size + 1 + 1, 3, none⟩ (.slice a3 l3 k3))) (hsm.mono (fun b hb => by simp [hb])) (by simp)).below jobR_fits b3
  clear r3
  have r3 := r3'
  clear r3'
  clear hsm
  have L3 : Hid (∀ b, b ∈ fq4 → w.heap.size + 1 + 1 < b) := Lib.hid (fun b hb => by have := hlo3 b hb; have := Z3.out; omega)
  have D4 := Lib.hid (hB.setCell (p := ⟨w.heap.size + 1 + 1, 4, none⟩) (by simp; omega) (.slice a4 l4 k4))
  have Z4 := Lib.hid hz
  have ON3 := Lib.hid n3.once
  have FR3 := Lib.hid n3.free
  have LT3 : Hid (∀ b, b ∈ fq4 → b < w4.heap.size) := Lib.hid (r4.lt jobR_fits)
  have HR0 := Lib.hid r0
  have HR1 := Lib.hid r1
  have HR2 := Lib.hid r2
  have HR3 := Lib.hid r3
  have HR4 := Lib.hid r4
  have HhB := Lib.hid hB
  have Hz := Lib.hid hz
  clear r0 r1 r2 r3 r4 n3 b3 hB hlo3 hz
  go_wp2_with fail
  have r0 := HR0.out
  have r1 := HR1.out
  have r2 := HR2.out
  have r3 := HR3.out
  have r4 := HR4.out
  have hB := HhB.out
  have hz := Hz.out
  clear HhB Hz HR0 HR1 HR2 HR3 HR4
  refine (to_jobs _ x.told fp5 (HS.out.2.2.2.2) _ (G5.out.below jobR_fits D4.out)).mono ?_
  rintro e w5 ⟨v'5, fq5, rfl, r5, n4, b4⟩
  obtain ⟨a5, l5, k5, rfl⟩ := r5.form
  have X0' := keep_cell b4 ((World.cell?_setCell_other _ _ _ _ (by simp)).trans X0)
  have X1' := keep_cell b4 ((World.cell?_setCell_other _ _ _ _ (by simp)).trans X1)
  have X2' := keep_cell b4 ((World.cell?_setCell_other _ _ _ _ (by simp)).trans X2)
  have X3' := keep_cell b4 ((World.cell?_setCell_other _ _ _ _ (by simp)).trans X3)
  have X4' := keep_cell b4 ((World.cell?_setCell_other _ _ _ _ (by simp)).trans X4)
  have X5' := keep_cell b4 ((World.cell?_setCell_other _ _ _ _ (by simp)).trans X5)
  have M0' := keep_cell b4 ((World.cell?_setCell_other _ _ _ _ (by simp)).trans M0)
  have M1' := keep_cell b4 ((World.cell?_setCell_other _ _ _ _ (by simp)).trans M1)
  have M2' := keep_cell b4 ((World.cell?_setCell_other _ _ _ _ (by simp)).trans M2)
  have M3' := keep_cell b4 ((World.cell?_setCell_other _ _ _ _ (by simp)).trans M3)
  have M4' := keep_cell b4 ((World.cell?_setCell_other _ _ _ _ (by simp)).trans M4)
  have M5' := keep_cell b4 ((World.cell?_setCell_other _ _ _ _ (by simp)).trans M5)
  have O0' := keep_cell b4 ((World.cell?_setCell_other _ _ _ _ (by simp)).trans O0)
  have O1' := keep_cell b4 ((World.cell?_setCell_other _ _ _ _ (by simp)).trans O1)
  have O2' := keep_cell b4 ((World.cell?_setCell_other _ _ _ _ (by simp)).trans O2)
  have O3' := keep_cell b4 ((World.cell?_setCell_other _ _ _ _ (by simp)).trans O3)
  have O4' := keep_cell b4 (World.cell?_setCell_same _ _ _ O4)
  have O5' := keep_cell b4 ((World.cell?_setCell_other _ _ _ _ (by simp)).trans O5)
  have f10' : w5.frozen? ⟨w.heap.size + 1, 0, none⟩ = false := keep_free b4 (by simp; omega) (by simpa using f10)
  have f11' : w5.frozen? ⟨w.heap.size + 1, 1, none⟩ = false := keep_free b4 (by simp; omega) (by simpa using f11)
  have f12' : w5.frozen? ⟨w.heap.size + 1, 2, none⟩ = false := keep_free b4 (by simp; omega) (by simpa using f12)
  have f13' : w5.frozen? ⟨w.heap.size + 1, 3, none⟩ = false := keep_free b4 (by simp; omega) (by simpa using f13)
  have f14' : w5.frozen? ⟨w.heap.size + 1, 4, none⟩ = false := keep_free b4 (by simp; omega) (by simpa using f14)
  have f15' : w5.frozen? ⟨w.heap.size + 1, 5, none⟩ = false := keep_free b4 (by simp; omega) (by simpa using f15)
  have f20' : w5.frozen? ⟨w.heap.size + 1 + 1, 0, none⟩ = false := keep_free b4 (by simp; omega) (by simpa using f20)
  have f21' : w5.frozen? ⟨w.heap.size + 1 + 1, 1, none⟩ = false := keep_free b4 (by simp; omega) (by simpa using f21)
  have f22' : w5.frozen? ⟨w.heap.size + 1 + 1, 2, none⟩ = false := keep_free b4 (by simp; omega) (by simpa using f22)
  have f23' : w5.frozen? ⟨w.heap.size + 1 + 1, 3, none⟩ = false := keep_free b4 (by simp; omega) (by simpa using f23)
  have f24' : w5.frozen? ⟨w.heap.size + 1 + 1, 4, none⟩ = false := keep_free b4 (by simp; omega) (by simpa using f24)
  have f25' : w5.frozen? ⟨w.heap.size + 1 + 1, 5, none⟩ = false := keep_free b4 (by simp; omega) (by simpa using f25)
  clear X0 M0 O0 f10 f20 X1 M1 O1 f11 f21 X2 M2 O2 f12 f22 X3 M3 O3 f13 f23 X4 M4 O4 f14 f24 X5 M5 O5 f15 f25
  have X0 := X0'
  have X1 := X1'
  have X2 := X2'
  have X3 := X3'
  have X4 := X4'
  have X5 := X5'
  clear X0' X1' X2' X3' X4' X5'
  have M0 := M0'
  have M1 := M1'
  have M2 := M2'
  have M3 := M3'
  have M4 := M4'
  have M5 := M5'
  clear M0' M1' M2' M3' M4' M5'
  have O0 := O0'
  have O1 := O1'
  have O2 := O2'
  have O3 := O3'
  have O4 := O4'
  have O5 := O5'
  clear O0' O1' O2' O3' O4' O5'
  have f10 := f10'
  have f11 := f11'
  have f12 := f12'
  have f13 := f13'
  have f14 := f14'
  have f15 := f15'
  clear f10' f11' f12' f13' f14' f15'
  have f20 := f20'
  have f21 := f21'
  have f22 := f22'
  have f23 := f23'
  have f24 := f24'
  have f25 := f25'
  clear f20' f21' f22' f23' f24' f25'
  have hB2 : Below w.heap.size w w5 := D4.out.trans (b4.mono (by have := D4.out.size; exact this))
  clear hB
  have hB := hB2
  clear hB2
  have hlo4 : ∀ b, b ∈ fq5 → w4.heap.size ≤ b := fun b hb => by have := n4.lo b hb; simpa using this
  have hz2 : w.heap.size + 1 + 1 < w5.heap.size := by have := b4.size; simp at this; omega
  clear hz
  have hz := hz2
  clear hz2
  have DJ0_4 : Hid (∀ b, b ∈ fq0 ++ fq1 → b ∉ fq5) := Lib.hid (fun b hb hb2 => by have := LT0.out b hb; have := hlo4 b hb2; omega)
  have hsm : Same (fq0 ++ fq1) w4 (w4.setCell ⟨w.heap.size + 1 + 1, 4, none⟩ (.slice a4 l4 k4)) := fun b hb => by have := L0.out b hb; rw [Below.heap_setCell _ _ _ _ (by simp; omega)]
  have ht : ∀ b, b ∈ fq0 ++ fq1 → b < (w4.setCell ⟨w.heap.size + 1 + 1, 4, none⟩ (.slice a4 l4 k4)).heap.size := fun b hb => by have := LT0.out b hb; simp; omega
  have hf : Free (fq0 ++ fq1) w5 := (Free.same (w' := (w4.setCell ⟨w.heap.size + 1 + 1, 4, none⟩ (.slice a4 l4 k4))) FR0.out hsm).below ht b4
  have hl : ∀ b, b ∈ fq0 ++ fq1 → b < w5.heap.size := fun b hb => by have := ht b hb; have := b4.size; omega
  clear FR0 LT0 ht
  have FR0 := Lib.hid hf
  have LT0 := Lib.hid hl
  clear hf hl
  have r0' := (r0.same intR_fits (w' := (w4.setCell ⟨w.heap.size + 1 + 1, 4, none⟩ (.slice a4 l4 k4))) (hsm.mono (fun b hb => by simp [hb])) (by simp)).below intR_fits b4
  clear r0
  have r0 := r0'
  clear r0'
  have r1' := (r1.same intR_fits (w' := (w4.setCell ⟨w.heap.size + 1 + 1, 4, none⟩ (.slice a4 l4 k4))) (hsm.mono (fun b hb => by simp [hb])) (by simp)).below intR_fits b4
  clear r1
  have r1 := r1'
  clear r1'
  clear hsm
  have DJ1_4 : Hid (∀ b, b ∈ fq2 → b ∉ fq5) := Lib.hid (fun b hb hb2 => by have := LT1.out b hb; have := hlo4 b hb2; omega)
  have hsm : Same (fq2) w4 (w4.setCell ⟨w.heap.size + 1 + 1, 4, none⟩ (.slice a4 l4 k4)) := fun b hb => by have := L1.out b hb; rw [Below.heap_setCell _ _ _ _ (by simp; omega)]
  have ht : ∀ b, b ∈ fq2 → b < (w4.setCell ⟨w.heap.size + 1 + 1, 4, none⟩ (.slice a4 l4 k4)).heap.size := fun b hb => by have := LT1.out b hb; simp; omega
  have hf : Free (fq2) w5 := (Free.same (w' := (w4.setCell ⟨w.heap.size + 1 + 1, 4, none⟩ (.slice a4 l4 k4))) FR1.out hsm).below ht b4
  have hl : ∀ b, b ∈ fq2 → b < w5.heap.size := fun b hb => by have := ht b hb; have := b4.size; omega
  clear FR1 LT1 ht
  have FR1 := Lib.hid hf
  have LT1 := Lib.hid hl
  clear hf hl
  have r2' := (r2.same intR_fits (w' := (w4.setCell ⟨w.heap.size + 1 + 1, 4, none⟩ (.slice a4 l4 k4))) (hsm.mono (fun b hb => by simp [hb])) (by simp)).below intR_fits b4
  clear r2
  have r2 := r2'
  clear r2'
  clear hsm
  have DJ2_4 : Hid (∀ b, b ∈ fq3 → b ∉ fq5) := Lib.hid (fun b hb hb2 => by have := LT2.out b hb; have := hlo4 b hb2; omega)
  have hsm : Same (fq3) w4 (w4.setCell ⟨w.heap.size + 1 + 1, 4, none⟩ (.slice a4 l4 k4)) := fun b hb => by have := L2.out b hb; rw [Below.heap_setCell _ _ _ _ (by simp; omega)]
  have ht : ∀ b, b ∈ fq3 → b < (w4.setCell ⟨w.heap.size + 1 + 1, 4, none⟩ (.slice a4 l4 k4)).heap.size := fun b hb => by have := LT2.out b hb; simp; omega
  have hf : Free (fq3) w5 := (Free.same (w' := (w4.setCell ⟨w.heap.size + 1 + 1, 4, none⟩ (.slice a4 l4 k4))) FR2.out hsm).below ht b4
  have hl : ∀ b, b ∈ fq3 → b < w5.heap.size := fun b hb => by have := ht b hb; have := b4.size; omega
  clear FR2 LT2 ht
  have FR2 := Lib.hid hf
  have LT2 := Lib.hid hl
  clear hf hl
  have r3' := (r3.same jobR_fits (w' := (w4.setCell ⟨w.heap.size + 1 + 1, 4, none⟩ (.slice a4 l4 k4))) (hsm.mono (fun b hb => by simp [hb])) (by simp)).below jobR_fits b4
  clear r3
  have r3 := r3'
  clear r3'
  clear hsm
  have DJ3_4 : Hid (∀ b, b ∈ fq4 → b ∉ fq5) := Lib.hid (fun b hb hb2 => by have := LT3.out b hb; have := hlo4 b hb2; omega)
  have hsm : Same (fq4) w4 (w4.setCell ⟨w.heap.size + 1 + 1, 4, none⟩ (.slice a4 l4 k4)) := fun b hb => by have := L3.out b hb; rw [Below.heap_setCell _ _ _ _ (by simp; omega)]
  have ht : ∀ b, b ∈ fq4 → b < (w4.setCell ⟨w.heap.size + 1 + 1, 4, none⟩ (.slice a4 l4 k4)).heap.size := fun b hb => by have := LT3.out b hb; simp; omega
  have hf : Free (fq4) w5 := (Free.same (w' := (w4.setCell ⟨w.heap.size + 1 + 1, 4, none⟩ (.slice a4 l4 k4))) FR3.out hsm).below ht b4
  have hl : ∀ b, b ∈ fq4 → b < w5.heap.size := fun b hb => by have := ht b hb; have := b4.size; omega
  clear FR3 LT3 ht
  have FR3 := Lib.hid hf
  have LT3 := Lib.hid hl
  clear hf hl
  have r4' := (r4.same jobR_fits (w' := (w4.setCell ⟨w.heap.size + 1 + 1, 4, none⟩ (.slice a4 l4 k4))) (hsm.mono (fun b hb => by simp [hb])) (by simp)).below jobR_fits b4
  clear r4
  have r4 := r4'
  clear r4'
  clear hsm
  have L4 : Hid (∀ b, b ∈ fq5 → w.heap.size + 1 + 1 < b) := Lib.hid (fun b hb => by have := hlo4 b hb; have := Z4.out; omega)
  have D5 := Lib.hid (hB.setCell (p := ⟨w.heap.size + 1 + 1, 5, none⟩) (by simp; omega) (.slice a5 l5 k5))
  have Z5 := Lib.hid hz
  have ON4 := Lib.hid n4.once
  have FR4 := Lib.hid n4.free
  have LT4 : Hid (∀ b, b ∈ fq5 → b < w5.heap.size) := Lib.hid (r5.lt jobR_fits)
  have HR0 := Lib.hid r0
  have HR1 := Lib.hid r1
  have HR2 := Lib.hid r2
  have HR3 := Lib.hid r3
  have HR4 := Lib.hid r4
  have HR5 := Lib.hid r5
  have HhB := Lib.hid hB
  have Hz := Lib.hid hz
  clear r0 r1 r2 r3 r4 r5 n4 b4 hB hlo4 hz X0 X1 X2 X3 X4 X5
  go_wp2
  have hsame : ∀ (fq : List Nat), (∀ b, b ∈ fq → w.heap.size + 1 + 1 < b) → ∀ {s0 t0 t1 t2 t3 t4 t5 : Value}, Same fq w5 (((((((w5.setCell ⟨w.heap.size + 1 + 1, 5, none⟩ s0).setCell ⟨w.heap.size + 1, 0, none⟩ t0).setCell ⟨w.heap.size + 1, 1, none⟩ t1).setCell ⟨w.heap.size + 1, 2, none⟩ t2).setCell ⟨w.heap.size + 1, 3, none⟩ t3).setCell ⟨w.heap.size + 1, 4, none⟩ t4).setCell ⟨w.heap.size + 1, 5, none⟩ t5) := fun fq hq => by
    intro s0 t0 t1 t2 t3 t4 t5 b hb
    have := hq b hb
    rw [Below.heap_setCell _ _ _ _ (by simp; omega), Below.heap_setCell _ _ _ _ (by simp; omega), Below.heap_setCell _ _ _ _ (by simp; omega), Below.heap_setCell _ _ _ _ (by simp; omega), Below.heap_setCell _ _ _ _ (by simp; omega), Below.heap_setCell _ _ _ _ (by simp; omega), Below.heap_setCell _ _ _ _ (by simp; omega)]
  have HL : ∀ b, b ∈ (fq0 ++ fq1) ++ fq2 ++ fq3 ++ fq4 ++ fq5 → w.heap.size + 1 + 1 < b := (all_app (T := fun b => w.heap.size + 1 + 1 < b) (all_app (T := fun b => w.heap.size + 1 + 1 < b) (all_app (T := fun b => w.heap.size + 1 + 1 < b) (all_app (T := fun b => w.heap.size + 1 + 1 < b) L0.out L1.out) L2.out) L3.out) L4.out)
  exact bodyPost_ret (v := .agg #[.slice a0 l0 k0, .slice a1 l1 k1, .slice a2 l2 k2, .slice a3 l3 k3, .slice a4 l4 k4, .slice a5 l5 k5]) (by simp [results, Try.results37, go_sem, M0, M1, M2, M3, M4, M5]) rfl
    ⟨_, fq0, _, fq1, _, fq2, _, fq3, _, fq4, _, fq5, rfl, HR0.out.same intR_fits (hsame _ (fun b hb => L0.out b (by simp [hb]))) (by simp), HR1.out.same intR_fits (hsame _ (fun b hb => L0.out b (by simp [hb]))) (by simp), HR2.out.same intR_fits (hsame _ (fun b hb => L1.out b (by simp [hb]))) (by simp), HR3.out.same jobR_fits (hsame _ (fun b hb => L2.out b (by simp [hb]))) (by simp), HR4.out.same jobR_fits (hsame _ (fun b hb => L3.out b (by simp [hb]))) (by simp), HR5.out.same jobR_fits (hsame _ (fun b hb => L4.out b (by simp [hb]))) (by simp), ⟨fun b hb => by have := HL b (by simpa using hb); omega, by simpa using (nodup_app (nodup_app (nodup_app (nodup_app ON0.out ON1.out DJ0_1.out) ON2.out (all_app (T := fun b => b ∉ fq3) DJ0_2.out DJ1_2.out)) ON3.out (all_app (T := fun b => b ∉ fq4) (all_app (T := fun b => b ∉ fq4) DJ0_3.out DJ1_3.out) DJ2_3.out)) ON4.out (all_app (T := fun b => b ∉ fq5) (all_app (T := fun b => b ∉ fq5) (all_app (T := fun b => b ∉ fq5) DJ0_4.out DJ1_4.out) DJ2_4.out) DJ3_4.out)), fun b hb => ((Free.app (Free.app (Free.app (Free.app FR0.out FR1.out) FR2.out) FR3.out) FR4.out).same (hsame _ HL)) b (by simpa using hb)⟩, (((((((HhB.out.setCell (by simp; omega) _).setCell (by simp) _).setCell (by simp) _).setCell (by simp) _).setCell (by simp) _).setCell (by simp) _).setCell (by simp) _)⟩


end Go.Proofs.Ytmmojgopeaelcaa
