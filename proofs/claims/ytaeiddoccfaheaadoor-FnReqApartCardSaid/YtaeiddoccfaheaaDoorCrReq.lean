/-
  crReq: whether two things that are asked are the same.
-/
import Derived.Test.YtaeiddoccfaheaaDoorProg
import Derived.Test.YtaeiddoccfaheaaDoorReq
import Derived.Test.YtaeiddoccfaheaaDoorCrInts
import Derived.Test.YtaeiddoccfaheaaDoorDBox
import Derived.Test.YtaeiddoccfaheaaDoorNew
import Derived.StillTailTactics
import Derived.Deep.Cut
import Derived.Deep.QuietTactic
import Derived.BigQuiet
import Derived.WalkSmall
namespace Go.Proofs.YtaeiddoccfaheaaDoor
set_option linter.unusedVariables false
set_option linter.unusedSimpArgs false
open Go.RowKit Go.ChangeShapes

set_option maxRecDepth 100000 in
set_option maxHeartbeats 6400000 in
theorem crReq_any (x y : Req) (v0 v1 u0 u1 : Value) (f0 f1 h0 h1 : List Nat) (w : World) (g0 : SlR 1 intR w x.data v0 f0) (g1 : SlR 1 intR w x.lanes v1 f1) (k0 : SlR 1 intR w y.data u0 h0) (k1 : SlR 1 intR w y.lanes u1 h1) :
    Calls Tryd.prog 23 #[.agg #[.int .i64 x.id, .int .i64 x.kind, .int .i64 x.addr, .int .i64 x.many, .bool x.wrap, v0, v1], .agg #[.int .i64 y.id, .int .i64 y.kind, .int .i64 y.addr, .int .i64 y.many, .bool y.wrap, u0, u1]] w fun e w' => e = .returned (.bool (decide (x = y))) ∧ Below w.heap.size w w' := by
  obtain ⟨i, k, a, q, b, da, la⟩ := x
  obtain ⟨i', k', a', q', b', da', la'⟩ := y
  obtain ⟨a0, n0, c0, rfl⟩ := g0.form
  obtain ⟨a1, n1, c1, rfl⟩ := g1.form
  obtain ⟨a2, n2, c2, rfl⟩ := k0.form
  obtain ⟨a3, n3, c3, rfl⟩ := k1.form
  obtain ⟨w0, hw0⟩ : ∃ w0, w0 = (w.alloc (.cells #[.int .i64 i, .int .i64 k, .int .i64 a, .int .i64 q, .bool b, .slice a0 n0 c0, .slice a1 n1 c1] 35)).alloc (.cells #[.int .i64 i', .int .i64 k', .int .i64 a', .int .i64 q', .bool b', .slice a2 n2 c2, .slice a3 n3 c3] 35) := ⟨_, rfl⟩
  have hb0 : Below w.heap.size w w0 := by rw [hw0]; exact (below_alloc w _).trans ((below_alloc _ _).mono (by simp))
  have cx : ∀ j (hj : j < 7), w0.cell? ⟨w.heap.size, j, none⟩ = some ((#[.int .i64 i, .int .i64 k, .int .i64 a, .int .i64 q, .bool b, .slice a0 n0 c0, .slice a1 n1 c1] : Array Value)[j]'hj) := fun j hj => by rw [hw0]; exact alloc_keep (alloc1_new _ _ _ j (by simp [show j < 7 from hj])) _
  have cy : ∀ j (hj : j < 7), w0.cell? ⟨w.heap.size + 1, j, none⟩ = some ((#[.int .i64 i', .int .i64 k', .int .i64 a', .int .i64 q', .bool b', .slice a2 n2 c2, .slice a3 n3 c3] : Array Value)[j]'hj) := fun j hj => by rw [hw0]; exact alloc2_new _ _ _ _ _ j (by simp [show j < 7 from hj])
  have G0 := Lib.hid (SlR.below intR_fits g0 hb0)
  have G1 := Lib.hid (SlR.below intR_fits g1 hb0)
  have K0 := Lib.hid (SlR.below intR_fits k0 hb0)
  have K1 := Lib.hid (SlR.below intR_fits k1 hb0)
  have B := Lib.hid hb0
  clear g0 g1 k0 k1 hb0
  go_enter Tryd.func23, Tryd.ntmps23
  go_upto_region 1 with fail
  rw [← hw0]
  obtain ⟨bx, hbx⟩ : ∃ z, z = w.heap.size := ⟨_, rfl⟩
  rw [← hbx] at cx cy
  rw [← hbx]
  clear hw0 hbx
  have x0 := cx 0 (by decide)
  have x1 := cx 1 (by decide)
  have x2 := cx 2 (by decide)
  have x3 := cx 3 (by decide)
  have x4 := cx 4 (by decide)
  have x5 := cx 5 (by decide)
  have y0 := cy 0 (by decide)
  have y1 := cy 1 (by decide)
  have y2 := cy 2 (by decide)
  have y3 := cy 3 (by decide)
  have y4 := cy 4 (by decide)
  have y5 := cy 5 (by decide)
  have X6 := Lib.hid (cx 6 (by decide))
  have Y6 := Lib.hid (cy 6 (by decide))
  simp only [List.getElem_toArray, List.getElem_cons_zero, List.getElem_cons_succ] at x0 x1 x2 x3 x4 x5 y0 y1 y2 y3 y4 y5
  clear cx cy
  by_cases e0 : i = i'
  case neg =>
    have q0 : (i == i') = false := by simpa using e0
    go_wp2
    go_ret
    exact ⟨ret_bool (by simp [e0]), B.out⟩
  have q0 : (i == i') = true := by simpa using e0
  by_cases e1 : k = k'
  case neg =>
    have q1 : (k == k') = false := by simpa using e1
    have E1 := Lib.hid e1
    clear e0
    go_wp2
    go_ret
    exact ⟨ret_bool (by simp [E1.out]), B.out⟩
  have q1 : (k == k') = true := by simpa using e1
  by_cases e2 : a = a'
  case neg =>
    have q2 : (a == a') = false := by simpa using e2
    have E2 := Lib.hid e2
    clear e0 e1
    go_wp2
    go_ret
    exact ⟨ret_bool (by simp [E2.out]), B.out⟩
  have q2 : (a == a') = true := by simpa using e2
  by_cases e3 : q = q'
  case neg =>
    have q3 : (q == q') = false := by simpa using e3
    have E3 := Lib.hid e3
    clear e0 e1 e2
    go_wp2
    go_ret
    exact ⟨ret_bool (by simp [E3.out]), B.out⟩
  have q3 : (q == q') = true := by simpa using e3
  by_cases e4 : b = b'
  case neg =>
    have q4 : (b == b') = false := by simpa using e4
    have E4 := Lib.hid e4
    clear e0 e1 e2 e3 e4
    go_wp2
    go_ret
    exact ⟨ret_bool (by simp [E4.out]), B.out⟩
  obtain rfl := e0
  obtain rfl := e1
  obtain rfl := e2
  obtain rfl := e3
  obtain rfl := e4
  clear q0 q1 q2 q3
  go_wp2_with fail
  refine (crInts_any _ _ da da' f0 h0 _ G0.out K0.out).mono ?_
  rintro e w2 ⟨rfl, nd, hw2⟩
  have b2 : Below w0.heap.size w0 w2 := by subst hw2; exact below_drewN (Below.refl _ _) nd
  have G12 := Lib.hid (SlR.below intR_fits G1.out b2)
  have K12 := Lib.hid (SlR.below intR_fits K1.out b2)
  have x6 := keep_cell b2 X6.out
  have y6 := keep_cell b2 Y6.out
  simp only [List.getElem_toArray, List.getElem_cons_zero, List.getElem_cons_succ] at x6 y6
  have B2 := Lib.hid (B.out.trans (b2.mono B.out.size))
  clear b2 hw2 x0 x1 x2 x3 x4 x5 y0 y1 y2 y3 y4 y5 X6 Y6 G0 G1 K0 K1 B
  by_cases e5 : da = da'
  case neg =>
    rw [decide_eq_false e5]
    have E5 := Lib.hid e5
    clear e5
    go_wp2
    go_ret
    exact ⟨ret_bool (by simp [E5.out]), B2.out⟩
  rw [decide_eq_true e5]
  obtain rfl := e5
  go_wp2_with fail
  refine (crInts_any _ _ la la' f1 h1 _ G12.out K12.out).mono ?_
  rintro e w3 ⟨rfl, nd, hw3⟩
  have b3 : Below w2.heap.size w2 w3 := by subst hw3; exact below_drewN (Below.refl _ _) nd
  have B3 := Lib.hid (B2.out.trans (b3.mono B2.out.size))
  obtain ⟨r, hr⟩ : ∃ z, z = decide (la = la') := ⟨_, rfl⟩
  rw [← hr]
  have HR := Lib.hid hr
  clear b3 hw3 hr x6 y6
  go_wp2
  go_ret
  exact ⟨ret_bool (by rw [HR.out]; simp), B3.out⟩

end Go.Proofs.YtaeiddoccfaheaaDoor
