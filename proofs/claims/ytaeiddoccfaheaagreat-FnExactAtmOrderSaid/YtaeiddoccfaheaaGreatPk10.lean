/-
 Texts of this claim laid together: Req.
-/
import Derived.Test.YtaeiddoccfaheaaGreatProg
import Derived.Test.YtaeiddoccfaheaaGreatPk04
import Derived.Test.YtaeiddoccfaheaaGreatPk09
import Derived.OwnWalk
import Derived.KernelRfl
import Derived.WalkSmall
set_option linter.unusedVariables false
set_option linter.unusedSimpArgs false
namespace Go.Proofs.YtaeiddoccfaheaaGreat
open Go.RowKit Go.ChangeShapes
structure Req where
 id : Int
 kind : Int
 addr : Int
 many : Int
 wrap : Bool
 data : List Int
 lanes : List Int
 deriving DecidableEq
def reqR : Pr Req := fun w x cs fp => ∃ (v0 v1 : Value) (fp0 fp1 : List Nat), cs = [.int .i64 x.id, .int .i64 x.kind, .int .i64 x.addr, .int .i64 x.many, .bool x.wrap, v0, v1] ∧ fp = fp0 ++ fp1 ∧ SlR 1 intR w x.data v0 fp0 ∧ SlR 1 intR w x.lanes v1 fp1
theorem reqR_fits : Fits 7 reqR := by
 refine ⟨fun ⟨v0, v1, fp0, fp1, e, e2, g0, g1⟩ => by rw [e]; rfl, fun ⟨v0, v1, fp0, fp1, e, e2, g0, g1⟩ b hb => ?_, fun ⟨v0, v1, fp0, fp1, e, e2, g0, g1⟩ hs hz => ⟨v0, v1, fp0, fp1, e, e2, g0.same intR_fits (hs.mono (fun b hb => by rw [e2]; simp [hb])) hz, g1.same intR_fits (hs.mono (fun b hb => by rw [e2]; simp [hb])) hz⟩⟩
 rw [e2] at hb
 simp only [List.mem_append] at hb
 rcases hb with (hb | hb)
 · exact g0.lt intR_fits b hb
 · exact g1.lt intR_fits b hb
set_option maxRecDepth 100000 in
theorem opens_Req : Opens Tryz.prog 118 reqR := fun {H enc w fuel cs x} h => by
 obtain ⟨xs, n, _, _, hl, hx, hf⟩ := DataW.trod_struct Tryz.underlying118 h
 have hk : Tryz.prog.cellsOf 118 = 7 := by kernel_rfl
 have k_int : Tryz.prog.cellsOf 3 = 1 := by kernel_rfl
 have k_bool : Tryz.prog.cellsOf 4 = 1 := by kernel_rfl
 have k_ints : Tryz.prog.cellsOf 23 = 1 := by kernel_rfl
 rw [hk] at hl
 have hx' : xs.length = 7 := hx
 match cs, hl with
 | [c0, c1, c2, c3, c4, c5, c6], _ =>
  obtain ⟨y0, _, e0, _⟩ := opens_int Tryz.underlying3 ((hf 0 _ rfl).trans (List.getElem?_eq_getElem (by omega)))
  obtain ⟨y1, _, e1, _⟩ := opens_int Tryz.underlying3 ((hf 1 _ rfl).trans (List.getElem?_eq_getElem (by omega)))
  obtain ⟨y2, _, e2, _⟩ := opens_int Tryz.underlying3 ((hf 2 _ rfl).trans (List.getElem?_eq_getElem (by omega)))
  obtain ⟨y3, _, e3, _⟩ := opens_int Tryz.underlying3 ((hf 3 _ rfl).trans (List.getElem?_eq_getElem (by omega)))
  obtain ⟨y4, _, e4, _⟩ := opens_bool Tryz.underlying4 ((hf 4 _ rfl).trans (List.getElem?_eq_getElem (by omega)))
  obtain ⟨y5, fp0, v0, e5, s0⟩ := (opens_slice Tryz.underlying23 (by kernel_rfl) (by decide) (opens_int Tryz.underlying3) intR_fits : Opens Tryz.prog 23 (slR 1 intR)) ((hf 5 _ rfl).trans (List.getElem?_eq_getElem (by omega)))
  obtain ⟨y6, fp1, v1, e6, s1⟩ := (opens_slice Tryz.underlying23 (by kernel_rfl) (by decide) (opens_int Tryz.underlying3) intR_fits : Opens Tryz.prog 23 (slR 1 intR)) ((hf 6 _ rfl).trans (List.getElem?_eq_getElem (by omega)))
  simp [k_int, k_bool, k_ints] at e0 e1 e2 e3 e4 e5 e6
  subst e0
  subst e1
  subst e2
  subst e3
  subst e4
  subst e5
  subst e6
  exact ⟨⟨y0, y1, y2, y3, y4, y5, y6⟩, _, _, _, fp0, fp1, rfl, rfl, s0, s1⟩
def sm_Req (x : Req) : Prop := sm_ints x.data ∧ sm_ints x.lanes
set_option maxRecDepth 100000 in
set_option maxHeartbeats 3200000 in
theorem sz_Req (x : Req) (v0 v1 : Value) (fp0 fp1 : List Nat) (left : Int) (h0 : 0 <= left) (h1 : left <= 1048576) (w : World) (g0 : SlR 1 intR w x.data v0 fp0) (g1 : SlR 1 intR w x.lanes v1 fp1) :
 Calls Tryz.prog 80 #[.agg #[.int .i64 x.id, .int .i64 x.kind, .int .i64 x.addr, .int .i64 x.many, .bool x.wrap, v0, v1], .int .i64 left] w (SzP left (sm_Req x) w) := by
 have hb := below_alloc w (.cells #[.int .i64 x.id, .int .i64 x.kind, .int .i64 x.addr, .int .i64 x.many, .bool x.wrap, v0, v1] 118)
 have G0 := Lib.hid (SlR.below intR_fits g0 hb)
 have G1 := Lib.hid (SlR.below intR_fits g1 hb)
 have B := Lib.hid hb
 clear hb g0 g1
 go_enter Tryz.func80, Tryz.ntmps80
 go_wp2_with fail
 refine (sz_ints _ x.data fp0 left (by omega) (by omega) _ G0.out).mono ?_
 rintro e w1 ⟨z0, rfl, le0, sm0, b⟩
 have X6 := keep_cell b (alloc1_new w _ _ 6 rfl)
 replace G1 := Lib.hid (SlR.below intR_fits G1.out b)
 replace B := Lib.hid (B.out.trans (b.mono B.out.size))
 have S0 := Lib.hid sm0
 clear b sm0 G0
 cases q0 : decide (z0 < 0)
 case' true =>
  clear X6
  go_wp2
  go_ret
  exact SzP.neg h0 B.out
 have p0 : 0 <= z0 := by have := of_decide_eq_false q0; omega
 go_wp2_with fail
 refine (sz_ints _ x.lanes fp1 z0 (by omega) (by omega) _ G1.out).mono ?_
 rintro e w2 ⟨z1, rfl, le1, sm1, b⟩
 replace B := Lib.hid (B.out.trans (b.mono B.out.size))
 have S1 := Lib.hid sm1
 clear b sm1 G1
 cases q1 : decide (z1 < 0)
 case' true =>
  skip
  go_wp2
  go_ret
  exact SzP.neg h0 B.out
 have p1 : 0 <= z1 := by have := of_decide_eq_false q1; omega
 go_wp2
 go_ret
 exact SzP.pos (by omega) ⟨S0.out (by omega), S1.out (by omega)⟩ B.out
set_option maxRecDepth 100000 in
set_option maxHeartbeats 3200000 in
theorem eq_Req (x y : Req) (v0 v1 u0 u1 : Value) (fp0 fp1 fq0 fq1 : List Nat) (w : World) (g0 : SlR 1 intR w x.data v0 fp0) (g1 : SlR 1 intR w x.lanes v1 fp1) (k0 : SlR 1 intR w y.data u0 fq0) (k1 : SlR 1 intR w y.lanes u1 fq1) :
 Calls Tryz.prog 103 #[.agg #[.int .i64 x.id, .int .i64 x.kind, .int .i64 x.addr, .int .i64 x.many, .bool x.wrap, v0, v1], .agg #[.int .i64 y.id, .int .i64 y.kind, .int .i64 y.addr, .int .i64 y.many, .bool y.wrap, u0, u1]] w fun e w' => e = .returned (.bool (decide (x = y))) ∧ Below w.heap.size w w' := by
 have hb : Below w.heap.size w ((w.alloc (.cells #[.int .i64 x.id, .int .i64 x.kind, .int .i64 x.addr, .int .i64 x.many, .bool x.wrap, v0, v1] 67)).alloc (.cells #[.int .i64 y.id, .int .i64 y.kind, .int .i64 y.addr, .int .i64 y.many, .bool y.wrap, u0, u1] 67)) := ((Below.refl _ _).alloc (Nat.le_refl _) _).alloc (by simp) _
 have G0 := Lib.hid (SlR.below intR_fits g0 hb)
 have K0 := Lib.hid (SlR.below intR_fits k0 hb)
 have G1 := Lib.hid (SlR.below intR_fits g1 hb)
 have K1 := Lib.hid (SlR.below intR_fits k1 hb)
 have B := Lib.hid hb
 have HD := Lib.hid (show decide (x = y) = (decide (x.id = y.id) && decide (x.kind = y.kind) && decide (x.addr = y.addr) && decide (x.many = y.many) && decide (x.wrap = y.wrap) && decide (x.data = y.data) && decide (x.lanes = y.lanes)) by cases x; cases y; simp [Bool.and_assoc])
 clear hb g0 k0 g1 k1
 cases e0 : decide (x.id = y.id)
 case' false =>
  have q0 : (x.id != y.id) = true := by simp [of_decide_eq_false e0]
  have E0 := Lib.hid e0
  clear e0
  go_enter Tryz.func103, Tryz.ntmps103
  go_wp2
  go_ret
  exact ⟨ret_bool (by rw [HD.out, E0.out]; simp), B.out⟩
 have q0 : (x.id != y.id) = false := by simp [of_decide_eq_true e0]
 have E0 := Lib.hid e0
 clear e0
 cases e1 : decide (x.kind = y.kind)
 case' false =>
  have q1 : (x.kind != y.kind) = true := by simp [of_decide_eq_false e1]
  have E1 := Lib.hid e1
  clear e1
  go_enter Tryz.func103, Tryz.ntmps103
  go_wp2
  go_ret
  exact ⟨ret_bool (by rw [HD.out, E0.out, E1.out]; simp), B.out⟩
 have q1 : (x.kind != y.kind) = false := by simp [of_decide_eq_true e1]
 have E1 := Lib.hid e1
 clear e1
 cases e2 : decide (x.addr = y.addr)
 case' false =>
  have q2 : (x.addr != y.addr) = true := by simp [of_decide_eq_false e2]
  have E2 := Lib.hid e2
  clear e2
  go_enter Tryz.func103, Tryz.ntmps103
  go_wp2
  go_ret
  exact ⟨ret_bool (by rw [HD.out, E0.out, E1.out, E2.out]; simp), B.out⟩
 have q2 : (x.addr != y.addr) = false := by simp [of_decide_eq_true e2]
 have E2 := Lib.hid e2
 clear e2
 cases e3 : decide (x.many = y.many)
 case' false =>
  have q3 : (x.many != y.many) = true := by simp [of_decide_eq_false e3]
  have E3 := Lib.hid e3
  clear e3
  go_enter Tryz.func103, Tryz.ntmps103
  go_wp2
  go_ret
  exact ⟨ret_bool (by rw [HD.out, E0.out, E1.out, E2.out, E3.out]; simp), B.out⟩
 have q3 : (x.many != y.many) = false := by simp [of_decide_eq_true e3]
 have E3 := Lib.hid e3
 clear e3
 cases e4 : decide (x.wrap = y.wrap)
 case' false =>
  have q4 : (!x.wrap == y.wrap) = true := by simp [of_decide_eq_false e4]
  have E4 := Lib.hid e4
  clear e4
  go_enter Tryz.func103, Tryz.ntmps103
  go_wp2
  go_ret
  exact ⟨ret_bool (by rw [HD.out, E0.out, E1.out, E2.out, E3.out, E4.out]; simp), B.out⟩
 have q4 : (!x.wrap == y.wrap) = false := by simp [of_decide_eq_true e4]
 have E4 := Lib.hid e4
 clear e4
 go_enter Tryz.func103, Tryz.ntmps103
 go_wp2_with fail
 refine (eq_ints _ _ x.data y.data fp0 fq0 _ G0.out K0.out).mono ?_
 rintro e w1 ⟨rfl, b⟩
 have X6 := keep_cell b (alloc2_old w _ _ _ _ 6 rfl)
 have Y6 := keep_cell b (alloc2_new w _ _ _ _ 6 rfl)
 replace G1 := Lib.hid (SlR.below intR_fits G1.out b)
 replace K1 := Lib.hid (SlR.below intR_fits K1.out b)
 replace B := Lib.hid (B.out.trans (b.mono B.out.size))
 clear b G0 K0
 cases e5 : decide (x.data = y.data)
 case' false =>
  have E5 := Lib.hid e5
  clear e5 X6 Y6
  go_wp2
  go_ret
  exact ⟨ret_bool (by rw [HD.out, E0.out, E1.out, E2.out, E3.out, E4.out, E5.out]; simp), B.out⟩
 have E5 := Lib.hid e5
 clear e5
 go_wp2_with fail
 refine (eq_ints _ _ x.lanes y.lanes fp1 fq1 _ G1.out K1.out).mono ?_
 rintro e w2 ⟨rfl, b⟩
 replace B := Lib.hid (B.out.trans (b.mono B.out.size))
 clear b G1 K1
 cases e6 : decide (x.lanes = y.lanes)
 case' false =>
  have E6 := Lib.hid e6
  clear e6 
  go_wp2
  go_ret
  exact ⟨ret_bool (by rw [HD.out, E0.out, E1.out, E2.out, E3.out, E4.out, E5.out, E6.out]; simp), B.out⟩
 have E6 := Lib.hid e6
 clear e6
 go_wp2
 go_ret
 exact ⟨ret_bool (by rw [HD.out,E0.out, E1.out, E2.out, E3.out, E4.out, E5.out, E6.out]; rfl), B.out⟩
set_option maxRecDepth 100000 in
set_option maxHeartbeats 3200000 in
theorem to_Req (x : Req) (v0 v1 : Value) (fp0 fp1 : List Nat) (hs : sm_Req x) (w : World) (g0 : SlR 1 intR w x.data v0 fp0) (g1 : SlR 1 intR w x.lanes v1 fp1) :
 Calls Tryz.prog 90 #[.agg #[.int .i64 x.id, .int .i64 x.kind, .int .i64 x.addr, .int .i64 x.many, .bool x.wrap, v0, v1]] w fun e w' => ∃ v'0 fq0 v'1 fq1, e = .returned (.agg #[.int .i64 x.id, .int .i64 x.kind, .int .i64 x.addr, .int .i64 x.many, .bool x.wrap, v'0, v'1]) ∧ SlR 1 intR w' x.data v'0 fq0 ∧ SlR 1 intR w' x.lanes v'1 fq1 ∧ New (fq0 ++ fq1) w w' ∧ Below w.heap.size w w' := by
 have G0 := Lib.hid g0
 have G1 := Lib.hid g1
 have HS := Lib.hid hs
 clear hs g0 g1
 go_enter Tryz.func90, Tryz.ntmps90
 go_wp2_with fail
 refine (to_ints _ x.data fp0 (HS.out.1) _ (G0.out.below intR_fits (below3 w _ _ _))).mono ?_
 rintro e w1 ⟨v'0, fq0, rfl, r0, n0, b0⟩
 obtain ⟨a0, l0, k0, rfl⟩ := r0.form
 have X0 : w1.cell? ⟨w.heap.size, 0, none⟩ = some (.int .i64 x.id) := keep_cell b0 (alloc_keep (alloc_keep (alloc1_new w _ _ 0 rfl) _) _)
 have X1 : w1.cell? ⟨w.heap.size, 1, none⟩ = some (.int .i64 x.kind) := keep_cell b0 (alloc_keep (alloc_keep (alloc1_new w _ _ 1 rfl) _) _)
 have X2 : w1.cell? ⟨w.heap.size, 2, none⟩ = some (.int .i64 x.addr) := keep_cell b0 (alloc_keep (alloc_keep (alloc1_new w _ _ 2 rfl) _) _)
 have X3 : w1.cell? ⟨w.heap.size, 3, none⟩ = some (.int .i64 x.many) := keep_cell b0 (alloc_keep (alloc_keep (alloc1_new w _ _ 3 rfl) _) _)
 have X4 : w1.cell? ⟨w.heap.size, 4, none⟩ = some (.bool x.wrap) := keep_cell b0 (alloc_keep (alloc_keep (alloc1_new w _ _ 4 rfl) _) _)
 have X5 : w1.cell? ⟨w.heap.size, 5, none⟩ = some (v0) := keep_cell b0 (alloc_keep (alloc_keep (alloc1_new w _ _ 5 rfl) _) _)
 have X6 : w1.cell? ⟨w.heap.size, 6, none⟩ = some (v1) := keep_cell b0 (alloc_keep (alloc_keep (alloc1_new w _ _ 6 rfl) _) _)
 have M0 : w1.cell? ⟨w.heap.size + 1, 0, none⟩ = some (.int .i64 0) := keep_cell b0 (alloc3_mid w _ _ _ _ _ 0 rfl)
 have M1 : w1.cell? ⟨w.heap.size + 1, 1, none⟩ = some (.int .i64 0) := keep_cell b0 (alloc3_mid w _ _ _ _ _ 1 rfl)
 have M2 : w1.cell? ⟨w.heap.size + 1, 2, none⟩ = some (.int .i64 0) := keep_cell b0 (alloc3_mid w _ _ _ _ _ 2 rfl)
 have M3 : w1.cell? ⟨w.heap.size + 1, 3, none⟩ = some (.int .i64 0) := keep_cell b0 (alloc3_mid w _ _ _ _ _ 3 rfl)
 have M4 : w1.cell? ⟨w.heap.size + 1, 4, none⟩ = some (.bool false) := keep_cell b0 (alloc3_mid w _ _ _ _ _ 4 rfl)
 have M5 : w1.cell? ⟨w.heap.size + 1, 5, none⟩ = some (.slice none 0 0) := keep_cell b0 (alloc3_mid w _ _ _ _ _ 5 rfl)
 have M6 : w1.cell? ⟨w.heap.size + 1, 6, none⟩ = some (.slice none 0 0) := keep_cell b0 (alloc3_mid w _ _ _ _ _ 6 rfl)
 have O0 : w1.cell? ⟨w.heap.size + 1 + 1, 0, none⟩ = some (.int .i64 x.id) := keep_cell b0 (alloc3_new w _ _ _ _ _ 0 rfl)
 have O1 : w1.cell? ⟨w.heap.size + 1 + 1, 1, none⟩ = some (.int .i64 x.kind) := keep_cell b0 (alloc3_new w _ _ _ _ _ 1 rfl)
 have O2 : w1.cell? ⟨w.heap.size + 1 + 1, 2, none⟩ = some (.int .i64 x.addr) := keep_cell b0 (alloc3_new w _ _ _ _ _ 2 rfl)
 have O3 : w1.cell? ⟨w.heap.size + 1 + 1, 3, none⟩ = some (.int .i64 x.many) := keep_cell b0 (alloc3_new w _ _ _ _ _ 3 rfl)
 have O4 : w1.cell? ⟨w.heap.size + 1 + 1, 4, none⟩ = some (.bool x.wrap) := keep_cell b0 (alloc3_new w _ _ _ _ _ 4 rfl)
 have O5 : w1.cell? ⟨w.heap.size + 1 + 1, 5, none⟩ = some (.slice none 0 0) := keep_cell b0 (alloc3_new w _ _ _ _ _ 5 rfl)
 have O6 : w1.cell? ⟨w.heap.size + 1 + 1, 6, none⟩ = some (.slice none 0 0) := keep_cell b0 (alloc3_new w _ _ _ _ _ 6 rfl)
 have f10 := keep_free b0 (by simp) (alloc3_free w _ _ _ _ _ _ 0 (.inl rfl))
 have f11 := keep_free b0 (by simp) (alloc3_free w _ _ _ _ _ _ 1 (.inl rfl))
 have f12 := keep_free b0 (by simp) (alloc3_free w _ _ _ _ _ _ 2 (.inl rfl))
 have f13 := keep_free b0 (by simp) (alloc3_free w _ _ _ _ _ _ 3 (.inl rfl))
 have f14 := keep_free b0 (by simp) (alloc3_free w _ _ _ _ _ _ 4 (.inl rfl))
 have f15 := keep_free b0 (by simp) (alloc3_free w _ _ _ _ _ _ 5 (.inl rfl))
 have f16 := keep_free b0 (by simp) (alloc3_free w _ _ _ _ _ _ 6 (.inl rfl))
 have f20 := keep_free b0 (by simp) (alloc3_free w _ _ _ _ _ _ 0 (.inr rfl))
 have f21 := keep_free b0 (by simp) (alloc3_free w _ _ _ _ _ _ 1 (.inr rfl))
 have f22 := keep_free b0 (by simp) (alloc3_free w _ _ _ _ _ _ 2 (.inr rfl))
 have f23 := keep_free b0 (by simp) (alloc3_free w _ _ _ _ _ _ 3 (.inr rfl))
 have f24 := keep_free b0 (by simp) (alloc3_free w _ _ _ _ _ _ 4 (.inr rfl))
 have f25 := keep_free b0 (by simp) (alloc3_free w _ _ _ _ _ _ 5 (.inr rfl))
 have f26 := keep_free b0 (by simp) (alloc3_free w _ _ _ _ _ _ 6 (.inr rfl))
 have hB : Below w.heap.size w w1 := (below3 w _ _ _).trans (b0.mono (by simp; omega))
 have hlo0 : ∀ b, b ∈ fq0 -> w.heap.size + 1 + 1 < b := fun b hb => by have := n0.lo b hb; simp at this; omega
 have hz : w.heap.size + 1 + 1 < w1.heap.size := by have := b0.size; simp at this; omega
 have L0 : Hid (∀ b, b ∈ fq0 -> w.heap.size + 1 + 1 < b) := Lib.hid (fun b hb => by have := hlo0 b hb; omega)
 have D1 := Lib.hid (hB.setCell (p := ⟨w.heap.size + 1 + 1, 5, none⟩) (by simp; omega) (.slice a0 l0 k0))
 have Z1 := Lib.hid hz
 have ON0 := Lib.hid n0.once
 have FR0 := Lib.hid n0.free
 have LT0 : Hid (∀ b, b ∈ fq0 -> b < w1.heap.size) := Lib.hid (r0.lt intR_fits)
 have HR0 := Lib.hid r0
 have HhB := Lib.hid hB
 have Hz := Lib.hid hz
 clear r0 n0 b0 hB hlo0 hz
 go_wp2_with fail
 have r0 := HR0.out
 have hB := HhB.out
 have hz := Hz.out
 clear HhB Hz HR0
 refine (to_ints _ x.lanes fp1 (HS.out.2) _ (G1.out.below intR_fits D1.out)).mono ?_
 rintro e w2 ⟨v'1, fq1, rfl, r1, n1, b1⟩
 obtain ⟨a1, l1, k1, rfl⟩ := r1.form
 have X0' := keep_cell b1 ((World.cell?_setCell_other _ _ _ _ (by simp)).trans X0)
 have X1' := keep_cell b1 ((World.cell?_setCell_other _ _ _ _ (by simp)).trans X1)
 have X2' := keep_cell b1 ((World.cell?_setCell_other _ _ _ _ (by simp)).trans X2)
 have X3' := keep_cell b1 ((World.cell?_setCell_other _ _ _ _ (by simp)).trans X3)
 have X4' := keep_cell b1 ((World.cell?_setCell_other _ _ _ _ (by simp)).trans X4)
 have X5' := keep_cell b1 ((World.cell?_setCell_other _ _ _ _ (by simp)).trans X5)
 have X6' := keep_cell b1 ((World.cell?_setCell_other _ _ _ _ (by simp)).trans X6)
 have M0' := keep_cell b1 ((World.cell?_setCell_other _ _ _ _ (by simp)).trans M0)
 have M1' := keep_cell b1 ((World.cell?_setCell_other _ _ _ _ (by simp)).trans M1)
 have M2' := keep_cell b1 ((World.cell?_setCell_other _ _ _ _ (by simp)).trans M2)
 have M3' := keep_cell b1 ((World.cell?_setCell_other _ _ _ _ (by simp)).trans M3)
 have M4' := keep_cell b1 ((World.cell?_setCell_other _ _ _ _ (by simp)).trans M4)
 have M5' := keep_cell b1 ((World.cell?_setCell_other _ _ _ _ (by simp)).trans M5)
 have M6' := keep_cell b1 ((World.cell?_setCell_other _ _ _ _ (by simp)).trans M6)
 have O0' := keep_cell b1 ((World.cell?_setCell_other _ _ _ _ (by simp)).trans O0)
 have O1' := keep_cell b1 ((World.cell?_setCell_other _ _ _ _ (by simp)).trans O1)
 have O2' := keep_cell b1 ((World.cell?_setCell_other _ _ _ _ (by simp)).trans O2)
 have O3' := keep_cell b1 ((World.cell?_setCell_other _ _ _ _ (by simp)).trans O3)
 have O4' := keep_cell b1 ((World.cell?_setCell_other _ _ _ _ (by simp)).trans O4)
 have O5' := keep_cell b1 (World.cell?_setCell_same _ _ _ O5)
 have O6' := keep_cell b1 ((World.cell?_setCell_other _ _ _ _ (by simp)).trans O6)
 have f10' : w2.frozen? ⟨w.heap.size + 1, 0, none⟩ = false := keep_free b1 (by simp; omega) (by simpa using f10)
 have f11' : w2.frozen? ⟨w.heap.size + 1, 1, none⟩ = false := keep_free b1 (by simp; omega) (by simpa using f11)
 have f12' : w2.frozen? ⟨w.heap.size + 1, 2, none⟩ = false := keep_free b1 (by simp; omega) (by simpa using f12)
 have f13' : w2.frozen? ⟨w.heap.size + 1, 3, none⟩ = false := keep_free b1 (by simp; omega) (by simpa using f13)
 have f14' : w2.frozen? ⟨w.heap.size + 1, 4, none⟩ = false := keep_free b1 (by simp; omega) (by simpa using f14)
 have f15' : w2.frozen? ⟨w.heap.size + 1, 5, none⟩ = false := keep_free b1 (by simp; omega) (by simpa using f15)
 have f16' : w2.frozen? ⟨w.heap.size + 1, 6, none⟩ = false := keep_free b1 (by simp; omega) (by simpa using f16)
 have f20' : w2.frozen? ⟨w.heap.size + 1 + 1, 0, none⟩ = false := keep_free b1 (by simp; omega) (by simpa using f20)
 have f21' : w2.frozen? ⟨w.heap.size + 1 + 1, 1, none⟩ = false := keep_free b1 (by simp; omega) (by simpa using f21)
 have f22' : w2.frozen? ⟨w.heap.size + 1 + 1, 2, none⟩ = false := keep_free b1 (by simp; omega) (by simpa using f22)
 have f23' : w2.frozen? ⟨w.heap.size + 1 + 1, 3, none⟩ = false := keep_free b1 (by simp; omega) (by simpa using f23)
 have f24' : w2.frozen? ⟨w.heap.size + 1 + 1, 4, none⟩ = false := keep_free b1 (by simp; omega) (by simpa using f24)
 have f25' : w2.frozen? ⟨w.heap.size + 1 + 1, 5, none⟩ = false := keep_free b1 (by simp; omega) (by simpa using f25)
 have f26' : w2.frozen? ⟨w.heap.size + 1 + 1, 6, none⟩ = false := keep_free b1 (by simp; omega) (by simpa using f26)
 clear X0 M0 O0 f10 f20 X1 M1 O1 f11 f21 X2 M2 O2 f12 f22 X3 M3 O3 f13 f23 X4 M4 O4 f14 f24 X5 M5 O5 f15 f25 X6 M6 O6 f16 f26
 have X0 := X0'
 have X1 := X1'
 have X2 := X2'
 have X3 := X3'
 have X4 := X4'
 have X5 := X5'
 have X6 := X6'
 clear X0' X1' X2' X3' X4' X5' X6'
 have M0 := M0'
 have M1 := M1'
 have M2 := M2'
 have M3 := M3'
 have M4 := M4'
 have M5 := M5'
 have M6 := M6'
 clear M0' M1' M2' M3' M4' M5' M6'
 have O0 := O0'
 have O1 := O1'
 have O2 := O2'
 have O3 := O3'
 have O4 := O4'
 have O5 := O5'
 have O6 := O6'
 clear O0' O1' O2' O3' O4' O5' O6'
 have f10 := f10'
 have f11 := f11'
 have f12 := f12'
 have f13 := f13'
 have f14 := f14'
 have f15 := f15'
 have f16 := f16'
 clear f10' f11' f12' f13' f14' f15' f16'
 have f20 := f20'
 have f21 := f21'
 have f22 := f22'
 have f23 := f23'
 have f24 := f24'
 have f25 := f25'
 have f26 := f26'
 clear f20' f21' f22' f23' f24' f25' f26'
 have hB2 : Below w.heap.size w w2 := D1.out.trans (b1.mono (by have := D1.out.size; exact this))
 clear hB
 have hB := hB2
 clear hB2
 have hlo1 : ∀ b, b ∈ fq1 -> w1.heap.size <= b := fun b hb => by have := n1.lo b hb; simpa using this
 have hz2 : w.heap.size + 1 + 1 < w2.heap.size := by have := b1.size; simp at this; omega
 clear hz
 have hz := hz2
 clear hz2
 have DJ0_1 : Hid (∀ b, b ∈ fq0 -> b ∉ fq1) := Lib.hid (fun b hb hb2 => by have := LT0.out b hb; have := hlo1 b hb2; omega)
 have hsm : Same (fq0) w1 (w1.setCell ⟨w.heap.size + 1 + 1, 5, none⟩ (.slice a0 l0 k0)) := fun b hb => by have := L0.out b hb; rw [Below.heap_setCell _ _ _ _ (by simp; omega)]
 have ht : ∀ b, b ∈ fq0 -> b < (w1.setCell ⟨w.heap.size + 1 + 1, 5, none⟩ (.slice a0 l0 k0)).heap.size := fun b hb => by have := LT0.out b hb; simp; omega
 have hf : Free (fq0) w2 := (Free.same (w' := (w1.setCell ⟨w.heap.size + 1 + 1, 5, none⟩ (.slice a0 l0 k0))) FR0.out hsm).below ht b1
 have hl : ∀ b, b ∈ fq0 -> b < w2.heap.size := fun b hb => by have := ht b hb; have := b1.size; omega
 clear FR0 LT0 ht
 have FR0 := Lib.hid hf
 have LT0 := Lib.hid hl
 clear hf hl
 have r0' := (r0.same intR_fits (w' := (w1.setCell ⟨w.heap.size + 1 + 1, 5, none⟩ (.slice a0 l0 k0))) (hsm.mono (fun b hb => by simp [hb])) (by simp)).below intR_fits b1
 clear r0
 have r0 := r0'
 clear r0'
 clear hsm
 have L1 : Hid (∀ b, b ∈ fq1 -> w.heap.size + 1 + 1 < b) := Lib.hid (fun b hb => by have := hlo1 b hb; have := Z1.out; omega)
 have D2 := Lib.hid (hB.setCell (p := ⟨w.heap.size + 1 + 1, 6, none⟩) (by simp; omega) (.slice a1 l1 k1))
 have Z2 := Lib.hid hz
 have ON1 := Lib.hid n1.once
 have FR1 := Lib.hid n1.free
 have LT1 : Hid (∀ b, b ∈ fq1 -> b < w2.heap.size) := Lib.hid (r1.lt intR_fits)
 have HR0 := Lib.hid r0
 have HR1 := Lib.hid r1
 have HhB := Lib.hid hB
 have Hz := Lib.hid hz
 clear r0 r1 n1 b1 hB hlo1 hz X0 X1 X2 X3 X4 X5 X6
 go_wp2
 have hsame : ∀ (fq : List Nat), (∀ b, b ∈ fq -> w.heap.size + 1 + 1 < b) -> ∀ {s0 t0 t1 t2 t3 t4 t5 t6 : Value}, Same fq w2 ((((((((w2.setCell ⟨w.heap.size + 1 + 1, 6, none⟩ s0).setCell ⟨w.heap.size + 1, 0, none⟩ t0).setCell ⟨w.heap.size + 1, 1, none⟩ t1).setCell ⟨w.heap.size + 1, 2, none⟩ t2).setCell ⟨w.heap.size + 1, 3, none⟩ t3).setCell ⟨w.heap.size + 1, 4, none⟩ t4).setCell ⟨w.heap.size + 1, 5, none⟩ t5).setCell ⟨w.heap.size + 1, 6, none⟩ t6) := fun fq hq => by
  intro s0 t0 t1 t2 t3 t4 t5 t6 b hb
  have := hq b hb
  rw [Below.heap_setCell _ _ _ _ (by simp; omega), Below.heap_setCell _ _ _ _ (by simp; omega), Below.heap_setCell _ _ _ _ (by simp; omega), Below.heap_setCell _ _ _ _ (by simp; omega), Below.heap_setCell _ _ _ _ (by simp; omega), Below.heap_setCell _ _ _ _ (by simp; omega), Below.heap_setCell _ _ _ _ (by simp; omega), Below.heap_setCell _ _ _ _ (by simp; omega)]
 have HL : ∀ b, b ∈ fq0 ++ fq1 -> w.heap.size + 1 + 1 < b := (all_app (T := fun b => w.heap.size + 1 + 1 < b) L0.out L1.out)
 exact bodyPost_ret (v := .agg #[.int .i64 x.id, .int .i64 x.kind, .int .i64 x.addr, .int .i64 x.many, .bool x.wrap, .slice a0 l0 k0, .slice a1 l1 k1]) (by simp [results, Tryz.results90, go_sem, M0, M1, M2, M3, M4, M5, M6]) rfl
  ⟨_, fq0, _, fq1, rfl, HR0.out.same intR_fits (hsame _ (fun b hb => L0.out b (by simp [hb]))) (by simp), HR1.out.same intR_fits (hsame _ (fun b hb => L1.out b (by simp [hb]))) (by simp), ⟨fun b hb => by have := HL b (by simpa using hb); omega, by simpa using (nodup_app ON0.out ON1.out DJ0_1.out), fun b hb => ((Free.app FR0.out FR1.out).same (hsame _ HL)) b (by simpa using hb)⟩, ((((((((HhB.out.setCell (by simp; omega) _).setCell (by simp) _).setCell (by simp) _).setCell (by simp) _).setCell (by simp) _).setCell (by simp) _).setCell (by simp) _).setCell (by simp) _)⟩
end Go.Proofs.YtaeiddoccfaheaaGreat
