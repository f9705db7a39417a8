/-
 Proved: the Go function laws.FnExactAtmOrder returns true for all arguments, and the arguments read afterwards as before: the program's AtmOrder answers as the reference's, in new memory.
 Conditions: none.
-/
import Derived.Test.YtaeiddoccfaheaaGreatPk48
import Derived.Test.YtaeiddoccfaheaaGreatPk36
import Derived.Test.YtaeiddoccfaheaaGreatPk47
import Derived.Test.YtaeiddoccfaheaaGreatPk49
import Derived.Test.YtaeiddoccfaheaaGreatPk50
import Derived.Test.YtaeiddoccfaheaaGreatPk21
import Derived.Test.YtaeiddoccfaheaaGreatPk16
set_option linter.unusedVariables false
set_option linter.unusedSimpArgs false
namespace Go.Proofs.YtaeiddoccfaheaaGreat.fnExactAtmOrder
open Go.ChangeShapes Go.WideShapes Go.ChangeAt Go.RowKit
theorem ord_ok (c : Bus) (l : List Ev) : ((atmOrder c l).1.mem.length <= 64 ∧ (atmOrder c l).1.holds.length <= 6) ∧ (atmOrder c l).2.length <= 108 ∧ ∀ j, j ∈ (atmOrder c l).2 -> j.rsp.data.length <= 4 := by
 by_cases h : busOk c = true ∧ l.length <= 108
 · rw [atmOrder_yes h]
   have := ordAll_ok h.1 l l.length (Nat.le_refl _)
   rw [List.take_of_length_le (Nat.le_refl _)] at this
   exact ⟨⟨by rw [this.ml]; omega, by rw [this.hl]; omega⟩, Nat.le_trans this.jl h.2, this.jd⟩
 · rw [atmOrder_no h]
   exact ⟨⟨by simp, by simp⟩, by simp, by simp⟩
theorem ord_smA (c : Bus) (l : List Ev) : sm_Atm (atmOrder c l).1 := by
 obtain ⟨⟨h1, h2⟩, -⟩ := ord_ok c l
 exact ⟨show _ <= _ by omega, show _ <= _ by omega⟩
theorem ord_smJ (c : Bus) (l : List Ev) : sm_jobs (atmOrder c l).2 := by
 obtain ⟨-, h1, h2⟩ := ord_ok c l
 exact ⟨by omega, fun k h => show _ <= _ by have := h2 _ (List.getElem_mem h); omega⟩
def FTo_Bus (x : Bus) : Fact := fun v w => ∃ (v'0 : Value) (v'1 : Value) (v'2 : Value) (fq0 : List Nat) (fq1 : List Nat) (fq2 : List Nat), v = .agg #[v'0, v'1, v'2] ∧ SlR 4 mrR w x.map v'0 fq0 ∧ SlR 1 intR w x.lat v'1 fq1 ∧ SlR 1 (slR 7 reqR) w x.progs v'2 fq2
theorem stTo_Bus (x : Bus) : Stable [] (FTo_Bus x) := fun _ _ _ ⟨v0, v1, v2, p0, p1, p2, e, h0, h1, h2⟩ hc => ⟨v0, v1, v2, p0, p1, p2, e, h0.chg mrR_fits hc (fun _ _ => by simp), h1.chg intR_fits hc (fun _ _ => by simp), h2.chg (slR_fits reqR_fits) hc (fun _ _ => by simp)⟩
set_option maxRecDepth 100000 in
set_option maxHeartbeats 12800000 in
theorem walk (cs0 : Array Value) (x0 : Bus) (fp0 : List Nat) (v1 : Value) (x1 : List Ev) (fp1 : List Nat) (w : World) (h0 : busR w x0 cs0.toList fp0) (h1 : SlR 3 evR w x1 v1 fp1) :
 Calls Tryz.prog 3 #[.agg cs0, v1] w fun e w' => e = .returned (.bool true) ∧ Below w.heap.size w w' := by
 obtain ⟨cs0⟩ := cs0
 obtain ⟨v0_0, v0_1, v0_2, fp0_0, fp0_1, fp0_2, e, _, g0_0, g0_1, g0_2⟩ := h0
 obtain ⟨al0_0, ln0_0, kn0_0, rfl⟩ := g0_0.form
 obtain ⟨al0_1, ln0_1, kn0_1, rfl⟩ := g0_1.form
 obtain ⟨al0_2, ln0_2, kn0_2, rfl⟩ := g0_2.form
 obtain rfl : cs0 = [.slice al0_0 ln0_0 kn0_0, .slice al0_1 ln0_1 kn0_1, .slice al0_2 ln0_2 kn0_2] := e
 obtain ⟨al1, ln1, kn1, rfl⟩ := h1.form
 have hb : Below w.heap.size w (w.alloc (.cells #[.slice al0_0 ln0_0 kn0_0, .slice al0_1 ln0_1 kn0_1, .slice al0_2 ln0_2 kn0_2] 26)) := below_alloc _ _
 have A0_0 := Lib.hid (SlR.below mrR_fits g0_0 hb)
 have A0_1 := Lib.hid (SlR.below intR_fits g0_1 hb)
 have A0_2 := Lib.hid (SlR.below (slR_fits reqR_fits) g0_2 hb)
 have A1 := Lib.hid (SlR.below evR_fits h1 hb)
 have B := Lib.hid hb
 clear hb h1 g0_0 g0_1 g0_2
 go_enter Tryz.func3, Tryz.ntmps3
 go_wp2_with fail
 refine (sz_Bus x0 _ _ _ fp0_0 fp0_1 fp0_2 1048576 (by omega) (by omega) _ A0_0.out A0_1.out A0_2.out).mono ?_
 rintro e w1 ⟨z0, rfl, le0, sm0, b⟩
 replace A0_0 := Lib.hid (SlR.below mrR_fits A0_0.out b)
 replace A0_1 := Lib.hid (SlR.below intR_fits A0_1.out b)
 replace A0_2 := Lib.hid (SlR.below (slR_fits reqR_fits) A0_2.out b)
 replace A1 := Lib.hid (SlR.below evR_fits A1.out b)
 replace B := Lib.hid (B.out.trans (b.mono B.out.size))
 have Q_P_0 := keep_cell b (alloc1_new w #[.slice al0_0 ln0_0 kn0_0, .slice al0_1 ln0_1 kn0_1, .slice al0_2 ln0_2 kn0_2] 26 0 rfl)
 have Q_P_1 := keep_cell b (alloc1_new w #[.slice al0_0 ln0_0 kn0_0, .slice al0_1 ln0_1 kn0_1, .slice al0_2 ln0_2 kn0_2] 26 1 rfl)
 have Q_P_2 := keep_cell b (alloc1_new w #[.slice al0_0 ln0_0 kn0_0, .slice al0_1 ln0_1 kn0_1, .slice al0_2 ln0_2 kn0_2] 26 2 rfl)
 clear b
 have S0 := Lib.hid sm0
 clear sm0
 cases hz0 : decide (z0 < 0)
 case' true =>
  go_wp2
  go_ret
  exact ⟨rfl, B.out⟩
 have pz0 : 0 <= z0 := by have := of_decide_eq_false hz0; omega
 have SM0 := Lib.hid (S0.out pz0)
 clear S0
 go_wp2_with fail
 refine (sz_evs _ x1 fp1 z0 (by omega) (by omega) _ A1.out).mono ?_
 rintro e w2 ⟨z1, rfl, le1, sm1, b⟩
 replace A0_0 := Lib.hid (SlR.below mrR_fits A0_0.out b)
 replace A0_1 := Lib.hid (SlR.below intR_fits A0_1.out b)
 replace A0_2 := Lib.hid (SlR.below (slR_fits reqR_fits) A0_2.out b)
 replace A1 := Lib.hid (SlR.below evR_fits A1.out b)
 replace Q_P_0 := keep_cell b Q_P_0
 replace Q_P_1 := keep_cell b Q_P_1
 replace Q_P_2 := keep_cell b Q_P_2
 replace B := Lib.hid (B.out.trans (b.mono B.out.size))
 clear b
 have S1 := Lib.hid sm1
 clear sm1
 cases hz1 : decide (z1 < 0)
 case' true =>
  go_wp2
  go_ret
  exact ⟨rfl, B.out⟩
 have pz1 : 0 <= z1 := by have := of_decide_eq_false hz1; omega
 have SM1 := Lib.hid (S1.out pz1)
 clear S1
 go_wp2_with fail
 have SRA := Lib.hid (ord_smA x0 x1)
 have SRJ := Lib.hid (ord_smJ x0 x1)
 refine (to_Bus x0 _ _ _ fp0_0 fp0_1 fp0_2 SM0.out _ A0_0.out A0_1.out A0_2.out).mono ?_
 rintro e w3 ⟨Sv0, Sf0, Sv1, Sf1, Sv2, Sf2, rfl, Sg0, Sg1, Sg2, n, b⟩
 obtain ⟨Sa0, Sl0, Sk0, rfl⟩ := Sg0.form
 obtain ⟨Sa1, Sl1, Sk1, rfl⟩ := Sg1.form
 obtain ⟨Sa2, Sl2, Sk2, rfl⟩ := Sg2.form
 replace A0_0 := Lib.hid (SlR.below mrR_fits A0_0.out b)
 replace A0_1 := Lib.hid (SlR.below intR_fits A0_1.out b)
 replace A0_2 := Lib.hid (SlR.below (slR_fits reqR_fits) A0_2.out b)
 replace A1 := Lib.hid (SlR.below evR_fits A1.out b)
 replace Q_P_0 := keep_cell b Q_P_0
 replace Q_P_1 := keep_cell b Q_P_1
 replace Q_P_2 := keep_cell b Q_P_2
 replace B := Lib.hid (B.out.trans (b.mono B.out.size))
 have S0 := Lib.hid Sg0
 have S1 := Lib.hid Sg1
 have S2 := Lib.hid Sg2
 clear n b Sg0 Sg1 Sg2
 go_wp2_with fail
 refine (to_evs _ x1 fp1 SM1.out _ A1.out).mono ?_
 rintro e w4 ⟨SEv, SEf, rfl, SEg, n, b⟩
 obtain ⟨SEa, SEl, SEk, rfl⟩ := SEg.form
 replace A0_0 := Lib.hid (SlR.below mrR_fits A0_0.out b)
 replace A0_1 := Lib.hid (SlR.below intR_fits A0_1.out b)
 replace A0_2 := Lib.hid (SlR.below (slR_fits reqR_fits) A0_2.out b)
 replace A1 := Lib.hid (SlR.below evR_fits A1.out b)
 replace S0 := Lib.hid (SlR.below mrR_fits S0.out b)
 replace S1 := Lib.hid (SlR.below intR_fits S1.out b)
 replace S2 := Lib.hid (SlR.below (slR_fits reqR_fits) S2.out b)
 replace Q_P_0 := keep_cell b Q_P_0
 replace Q_P_1 := keep_cell b Q_P_1
 replace Q_P_2 := keep_cell b Q_P_2
 replace B := Lib.hid (B.out.trans (b.mono B.out.size))
 have SE_ := Lib.hid SEg
 clear n b SEg
 go_wp2_with fail
 refine (sAtmOrder_any x0 x1 _ _ _ _ Sf0 Sf1 Sf2 SEf _ S0.out S1.out S2.out SE_.out).mono ?_
 rintro e w5 ⟨Tv0, Tv1, Tv2, Tf0, Tf1, Tf2, rfl, Tg0, Tg1, Tg2, n, b⟩
 obtain ⟨Ta0, Tl0, Tk0, rfl⟩ := Tg0.form
 obtain ⟨Ta1, Tl1, Tk1, rfl⟩ := Tg1.form
 obtain ⟨Ta2, Tl2, Tk2, rfl⟩ := Tg2.form
 replace A0_0 := Lib.hid (SlR.below mrR_fits A0_0.out b)
 replace A0_1 := Lib.hid (SlR.below intR_fits A0_1.out b)
 replace A0_2 := Lib.hid (SlR.below (slR_fits reqR_fits) A0_2.out b)
 replace A1 := Lib.hid (SlR.below evR_fits A1.out b)
 replace S0 := Lib.hid (SlR.below mrR_fits S0.out b)
 replace S1 := Lib.hid (SlR.below intR_fits S1.out b)
 replace S2 := Lib.hid (SlR.below (slR_fits reqR_fits) S2.out b)
 replace SE_ := Lib.hid (SlR.below evR_fits SE_.out b)
 replace Q_P_0 := keep_cell b Q_P_0
 replace Q_P_1 := keep_cell b Q_P_1
 replace Q_P_2 := keep_cell b Q_P_2
 replace B := Lib.hid (B.out.trans (b.mono B.out.size))
 have T0 := Lib.hid Tg0
 have T1 := Lib.hid Tg1
 have T2 := Lib.hid Tg2
 clear n b Tg0 Tg1 Tg2
 have ba := below_alloc w5 (.cells #[.slice Ta0 Tl0 Tk0, .slice Ta1 Tl1 Tk1] 33)
 replace A0_0 := Lib.hid (SlR.below mrR_fits A0_0.out ba)
 replace A0_1 := Lib.hid (SlR.below intR_fits A0_1.out ba)
 replace A0_2 := Lib.hid (SlR.below (slR_fits reqR_fits) A0_2.out ba)
 replace A1 := Lib.hid (SlR.below evR_fits A1.out ba)
 replace S0 := Lib.hid (SlR.below mrR_fits S0.out ba)
 replace S1 := Lib.hid (SlR.below intR_fits S1.out ba)
 replace S2 := Lib.hid (SlR.below (slR_fits reqR_fits) S2.out ba)
 replace SE_ := Lib.hid (SlR.below evR_fits SE_.out ba)
 replace T0 := Lib.hid (SlR.below intR_fits T0.out ba)
 replace T1 := Lib.hid (SlR.below intR_fits T1.out ba)
 replace T2 := Lib.hid (SlR.below jobR_fits T2.out ba)
 replace Q_P_0 := keep_cell ba Q_P_0
 replace Q_P_1 := keep_cell ba Q_P_1
 replace Q_P_2 := keep_cell ba Q_P_2
 replace B := Lib.hid (B.out.trans (ba.mono B.out.size))
 have Q_T_0 := alloc1_new w5 #[.slice Ta0 Tl0 Tk0, .slice Ta1 Tl1 Tk1] 33 0 rfl
 have Q_T_1 := alloc1_new w5 #[.slice Ta0 Tl0 Tk0, .slice Ta1 Tl1 Tk1] 33 1 rfl
 clear ba
 clear S0 S1 S2 SE_
 go_wp2_with fail
 refine (to_Bus x0 _ _ _ fp0_0 fp0_1 fp0_2 SM0.out _ A0_0.out A0_1.out A0_2.out).mono ?_
 rintro e w6 ⟨Xv0, Xf0, Xv1, Xf1, Xv2, Xf2, rfl, Xg0, Xg1, Xg2, n, b⟩
 obtain ⟨Xa0, Xl0, Xk0, rfl⟩ := Xg0.form
 obtain ⟨Xa1, Xl1, Xk1, rfl⟩ := Xg1.form
 obtain ⟨Xa2, Xl2, Xk2, rfl⟩ := Xg2.form
 have D_A0_0_X : Hid (∀ b, b ∈ fp0_0 -> b ∉ Xf0 ++ Xf1 ++ Xf2) := Lib.hid (fun b hb hb' => by have h1 := SlR.lt mrR_fits A0_0.out b hb; have h2 := n.lo b hb'; (try simp at h1); (try simp at h2); omega)
 have D_A0_1_X : Hid (∀ b, b ∈ fp0_1 -> b ∉ Xf0 ++ Xf1 ++ Xf2) := Lib.hid (fun b hb hb' => by have h1 := SlR.lt intR_fits A0_1.out b hb; have h2 := n.lo b hb'; (try simp at h1); (try simp at h2); omega)
 have D_A0_2_X : Hid (∀ b, b ∈ fp0_2 -> b ∉ Xf0 ++ Xf1 ++ Xf2) := Lib.hid (fun b hb hb' => by have h1 := SlR.lt (slR_fits reqR_fits) A0_2.out b hb; have h2 := n.lo b hb'; (try simp at h1); (try simp at h2); omega)
 have D_A1_X : Hid (∀ b, b ∈ fp1 -> b ∉ Xf0 ++ Xf1 ++ Xf2) := Lib.hid (fun b hb hb' => by have h1 := SlR.lt evR_fits A1.out b hb; have h2 := n.lo b hb'; (try simp at h1); (try simp at h2); omega)
 have D_T0_X : Hid (∀ b, b ∈ Tf0 -> b ∉ Xf0 ++ Xf1 ++ Xf2) := Lib.hid (fun b hb hb' => by have h1 := SlR.lt intR_fits T0.out b hb; have h2 := n.lo b hb'; (try simp at h1); (try simp at h2); omega)
 have D_T1_X : Hid (∀ b, b ∈ Tf1 -> b ∉ Xf0 ++ Xf1 ++ Xf2) := Lib.hid (fun b hb hb' => by have h1 := SlR.lt intR_fits T1.out b hb; have h2 := n.lo b hb'; (try simp at h1); (try simp at h2); omega)
 have D_T2_X : Hid (∀ b, b ∈ Tf2 -> b ∉ Xf0 ++ Xf1 ++ Xf2) := Lib.hid (fun b hb hb' => by have h1 := SlR.lt jobR_fits T2.out b hb; have h2 := n.lo b hb'; (try simp at h1); (try simp at h2); omega)
 have M_P_X : Hid (w.heap.size ∉ Xf0 ++ Xf1 ++ Xf2) := Lib.hid (fun hb' => by have h1 := block_of_cell Q_P_0; have h2 := n.lo _ hb'; (try simp at h1); (try simp at h2); omega)
 have M_T_X : Hid (w5.heap.size ∉ Xf0 ++ Xf1 ++ Xf2) := Lib.hid (fun hb' => by have h1 := block_of_cell Q_T_0; have h2 := n.lo _ hb'; (try simp at h1); (try simp at h2); omega)
 have LO_X : Hid (∀ b, b ∈ Xf0 ++ Xf1 ++ Xf2 -> w.heap.size <= b) := Lib.hid (fun b hb => by have h1 := n.lo b hb; have h2 := B.out.size; (try simp at h1); (try simp at h2); omega)
 replace A0_0 := Lib.hid (SlR.below mrR_fits A0_0.out b)
 replace A0_1 := Lib.hid (SlR.below intR_fits A0_1.out b)
 replace A0_2 := Lib.hid (SlR.below (slR_fits reqR_fits) A0_2.out b)
 replace A1 := Lib.hid (SlR.below evR_fits A1.out b)
 replace T0 := Lib.hid (SlR.below intR_fits T0.out b)
 replace T1 := Lib.hid (SlR.below intR_fits T1.out b)
 replace T2 := Lib.hid (SlR.below jobR_fits T2.out b)
 replace Q_P_0 := keep_cell b Q_P_0
 replace Q_P_1 := keep_cell b Q_P_1
 replace Q_P_2 := keep_cell b Q_P_2
 replace Q_T_0 := keep_cell b Q_T_0
 replace Q_T_1 := keep_cell b Q_T_1
 replace B := Lib.hid (B.out.trans (b.mono B.out.size))
 have X0 := Lib.hid Xg0
 have X1 := Lib.hid Xg1
 have X2 := Lib.hid Xg2
 have F_X := Lib.hid (n.free)
 have ON_X := Lib.hid (n.once)
 have W_X : Hid (∀ b, b ∈ Xf0 ++ Xf1 ++ Xf2 -> b < w6.heap.size) := Lib.hid ((all_app (T := fun b => b < w6.heap.size) ((all_app (T := fun b => b < w6.heap.size) (Xg0.lt mrR_fits) (Xg1.lt intR_fits))) (Xg2.lt (slR_fits reqR_fits))))
 clear n b Xg0 Xg1 Xg2
 have ba := below_alloc w6 (.cells #[.slice Xa0 Xl0 Xk0, .slice Xa1 Xl1 Xk1, .slice Xa2 Xl2 Xk2] 40)
 have M_X_X : Hid (w6.heap.size ∉ Xf0 ++ Xf1 ++ Xf2) := Lib.hid (fun hb => by have := W_X.out _ hb; omega)
 replace A0_0 := Lib.hid (SlR.below mrR_fits A0_0.out ba)
 replace A0_1 := Lib.hid (SlR.below intR_fits A0_1.out ba)
 replace A0_2 := Lib.hid (SlR.below (slR_fits reqR_fits) A0_2.out ba)
 replace A1 := Lib.hid (SlR.below evR_fits A1.out ba)
 replace T0 := Lib.hid (SlR.below intR_fits T0.out ba)
 replace T1 := Lib.hid (SlR.below intR_fits T1.out ba)
 replace T2 := Lib.hid (SlR.below jobR_fits T2.out ba)
 replace X0 := Lib.hid (SlR.below mrR_fits X0.out ba)
 replace X1 := Lib.hid (SlR.below intR_fits X1.out ba)
 replace X2 := Lib.hid (SlR.below (slR_fits reqR_fits) X2.out ba)
 replace Q_P_0 := keep_cell ba Q_P_0
 replace Q_P_1 := keep_cell ba Q_P_1
 replace Q_P_2 := keep_cell ba Q_P_2
 replace Q_T_0 := keep_cell ba Q_T_0
 replace Q_T_1 := keep_cell ba Q_T_1
 replace F_X := Lib.hid (Free.below F_X.out W_X.out ba)
 replace W_X := Lib.hid (fun q hq => Nat.lt_of_lt_of_le (W_X.out q hq) ba.size)
 replace B := Lib.hid (B.out.trans (ba.mono B.out.size))
 have Q_X_0 := alloc1_new w6 #[.slice Xa0 Xl0 Xk0, .slice Xa1 Xl1 Xk1, .slice Xa2 Xl2 Xk2] 40 0 rfl
 have Q_X_1 := alloc1_new w6 #[.slice Xa0 Xl0 Xk0, .slice Xa1 Xl1 Xk1, .slice Xa2 Xl2 Xk2] 40 1 rfl
 have Q_X_2 := alloc1_new w6 #[.slice Xa0 Xl0 Xk0, .slice Xa1 Xl1 Xk1, .slice Xa2 Xl2 Xk2] 40 2 rfl
 clear ba
 go_wp2_with fail
 refine (to_evs _ x1 fp1 SM1.out _ A1.out).mono ?_
 rintro e w7 ⟨XEv, XEf, rfl, XEg, n, b⟩
 obtain ⟨XEa, XEl, XEk, rfl⟩ := XEg.form
 have D_A0_0_XE : Hid (∀ b, b ∈ fp0_0 -> b ∉ XEf) := Lib.hid (fun b hb hb' => by have h1 := SlR.lt mrR_fits A0_0.out b hb; have h2 := n.lo b hb'; (try simp at h1); (try simp at h2); omega)
 have D_A0_1_XE : Hid (∀ b, b ∈ fp0_1 -> b ∉ XEf) := Lib.hid (fun b hb hb' => by have h1 := SlR.lt intR_fits A0_1.out b hb; have h2 := n.lo b hb'; (try simp at h1); (try simp at h2); omega)
 have D_A0_2_XE : Hid (∀ b, b ∈ fp0_2 -> b ∉ XEf) := Lib.hid (fun b hb hb' => by have h1 := SlR.lt (slR_fits reqR_fits) A0_2.out b hb; have h2 := n.lo b hb'; (try simp at h1); (try simp at h2); omega)
 have D_A1_XE : Hid (∀ b, b ∈ fp1 -> b ∉ XEf) := Lib.hid (fun b hb hb' => by have h1 := SlR.lt evR_fits A1.out b hb; have h2 := n.lo b hb'; (try simp at h1); (try simp at h2); omega)
 have D_T0_XE : Hid (∀ b, b ∈ Tf0 -> b ∉ XEf) := Lib.hid (fun b hb hb' => by have h1 := SlR.lt intR_fits T0.out b hb; have h2 := n.lo b hb'; (try simp at h1); (try simp at h2); omega)
 have D_T1_XE : Hid (∀ b, b ∈ Tf1 -> b ∉ XEf) := Lib.hid (fun b hb hb' => by have h1 := SlR.lt intR_fits T1.out b hb; have h2 := n.lo b hb'; (try simp at h1); (try simp at h2); omega)
 have D_T2_XE : Hid (∀ b, b ∈ Tf2 -> b ∉ XEf) := Lib.hid (fun b hb hb' => by have h1 := SlR.lt jobR_fits T2.out b hb; have h2 := n.lo b hb'; (try simp at h1); (try simp at h2); omega)
 have D_X0_XE : Hid (∀ b, b ∈ Xf0 -> b ∉ XEf) := Lib.hid (fun b hb hb' => by have h1 := SlR.lt mrR_fits X0.out b hb; have h2 := n.lo b hb'; (try simp at h1); (try simp at h2); omega)
 have D_X1_XE : Hid (∀ b, b ∈ Xf1 -> b ∉ XEf) := Lib.hid (fun b hb hb' => by have h1 := SlR.lt intR_fits X1.out b hb; have h2 := n.lo b hb'; (try simp at h1); (try simp at h2); omega)
 have D_X2_XE : Hid (∀ b, b ∈ Xf2 -> b ∉ XEf) := Lib.hid (fun b hb hb' => by have h1 := SlR.lt (slR_fits reqR_fits) X2.out b hb; have h2 := n.lo b hb'; (try simp at h1); (try simp at h2); omega)
 have M_P_XE : Hid (w.heap.size ∉ XEf) := Lib.hid (fun hb' => by have h1 := block_of_cell Q_P_0; have h2 := n.lo _ hb'; (try simp at h1); (try simp at h2); omega)
 have M_T_XE : Hid (w5.heap.size ∉ XEf) := Lib.hid (fun hb' => by have h1 := block_of_cell Q_T_0; have h2 := n.lo _ hb'; (try simp at h1); (try simp at h2); omega)
 have M_X_XE : Hid (w6.heap.size ∉ XEf) := Lib.hid (fun hb' => by have h1 := block_of_cell Q_X_0; have h2 := n.lo _ hb'; (try simp at h1); (try simp at h2); omega)
 have LO_XE : Hid (∀ b, b ∈ XEf -> w.heap.size <= b) := Lib.hid (fun b hb => by have h1 := n.lo b hb; have h2 := B.out.size; (try simp at h1); (try simp at h2); omega)
 have D_XE__X : Hid (∀ b, b ∈ XEf -> b ∉ Xf0 ++ Xf1 ++ Xf2) := Lib.hid (fun b hb hb' => by have h1 := W_X.out b hb'; have h2 := n.lo b hb; (try simp at h1); (try simp at h2); omega)
 replace A0_0 := Lib.hid (SlR.below mrR_fits A0_0.out b)
 replace A0_1 := Lib.hid (SlR.below intR_fits A0_1.out b)
 replace A0_2 := Lib.hid (SlR.below (slR_fits reqR_fits) A0_2.out b)
 replace A1 := Lib.hid (SlR.below evR_fits A1.out b)
 replace T0 := Lib.hid (SlR.below intR_fits T0.out b)
 replace T1 := Lib.hid (SlR.below intR_fits T1.out b)
 replace T2 := Lib.hid (SlR.below jobR_fits T2.out b)
 replace X0 := Lib.hid (SlR.below mrR_fits X0.out b)
 replace X1 := Lib.hid (SlR.below intR_fits X1.out b)
 replace X2 := Lib.hid (SlR.below (slR_fits reqR_fits) X2.out b)
 replace Q_P_0 := keep_cell b Q_P_0
 replace Q_P_1 := keep_cell b Q_P_1
 replace Q_P_2 := keep_cell b Q_P_2
 replace Q_T_0 := keep_cell b Q_T_0
 replace Q_T_1 := keep_cell b Q_T_1
 replace Q_X_0 := keep_cell b Q_X_0
 replace Q_X_1 := keep_cell b Q_X_1
 replace Q_X_2 := keep_cell b Q_X_2
 replace F_X := Lib.hid (Free.below F_X.out W_X.out b)
 replace W_X := Lib.hid (fun q hq => Nat.lt_of_lt_of_le (W_X.out q hq) b.size)
 replace B := Lib.hid (B.out.trans (b.mono B.out.size))
 have XE_ := Lib.hid XEg
 have F_XE := Lib.hid (n.free)
 have ON_XE := Lib.hid (n.once)
 have W_XE : Hid (∀ b, b ∈ XEf -> b < w7.heap.size) := Lib.hid (XEg.lt evR_fits)
 clear n b XEg
 go_wp2_with fail
 refine (iAtmOrder_any x0 x1 _ _ _ _ Xf0 Xf1 Xf2 XEf _ X0.out X1.out X2.out XE_.out).mono ?_
 rintro e w8 ⟨Rv0, Rv1, Rv2, Rf0, Rf1, Rf2, rfl, Rg0, Rg1, Rg2, n, b⟩
 obtain ⟨Ra0, Rl0, Rk0, rfl⟩ := Rg0.form
 obtain ⟨Ra1, Rl1, Rk1, rfl⟩ := Rg1.form
 obtain ⟨Ra2, Rl2, Rk2, rfl⟩ := Rg2.form
 have D_A0_0_RA : Hid (∀ b, b ∈ fp0_0 -> b ∉ Rf0 ++ Rf1) := Lib.hid (fun b hb hb' => by have h1 := SlR.lt mrR_fits A0_0.out b hb; have h2 := n.lo b (List.mem_append_left _ hb'); (try simp at h1); (try simp at h2); omega)
 have D_A0_1_RA : Hid (∀ b, b ∈ fp0_1 -> b ∉ Rf0 ++ Rf1) := Lib.hid (fun b hb hb' => by have h1 := SlR.lt intR_fits A0_1.out b hb; have h2 := n.lo b (List.mem_append_left _ hb'); (try simp at h1); (try simp at h2); omega)
 have D_A0_2_RA : Hid (∀ b, b ∈ fp0_2 -> b ∉ Rf0 ++ Rf1) := Lib.hid (fun b hb hb' => by have h1 := SlR.lt (slR_fits reqR_fits) A0_2.out b hb; have h2 := n.lo b (List.mem_append_left _ hb'); (try simp at h1); (try simp at h2); omega)
 have D_A1_RA : Hid (∀ b, b ∈ fp1 -> b ∉ Rf0 ++ Rf1) := Lib.hid (fun b hb hb' => by have h1 := SlR.lt evR_fits A1.out b hb; have h2 := n.lo b (List.mem_append_left _ hb'); (try simp at h1); (try simp at h2); omega)
 have D_T0_RA : Hid (∀ b, b ∈ Tf0 -> b ∉ Rf0 ++ Rf1) := Lib.hid (fun b hb hb' => by have h1 := SlR.lt intR_fits T0.out b hb; have h2 := n.lo b (List.mem_append_left _ hb'); (try simp at h1); (try simp at h2); omega)
 have D_T1_RA : Hid (∀ b, b ∈ Tf1 -> b ∉ Rf0 ++ Rf1) := Lib.hid (fun b hb hb' => by have h1 := SlR.lt intR_fits T1.out b hb; have h2 := n.lo b (List.mem_append_left _ hb'); (try simp at h1); (try simp at h2); omega)
 have D_T2_RA : Hid (∀ b, b ∈ Tf2 -> b ∉ Rf0 ++ Rf1) := Lib.hid (fun b hb hb' => by have h1 := SlR.lt jobR_fits T2.out b hb; have h2 := n.lo b (List.mem_append_left _ hb'); (try simp at h1); (try simp at h2); omega)
 have D_X0_RA : Hid (∀ b, b ∈ Xf0 -> b ∉ Rf0 ++ Rf1) := Lib.hid (fun b hb hb' => by have h1 := SlR.lt mrR_fits X0.out b hb; have h2 := n.lo b (List.mem_append_left _ hb'); (try simp at h1); (try simp at h2); omega)
 have D_X1_RA : Hid (∀ b, b ∈ Xf1 -> b ∉ Rf0 ++ Rf1) := Lib.hid (fun b hb hb' => by have h1 := SlR.lt intR_fits X1.out b hb; have h2 := n.lo b (List.mem_append_left _ hb'); (try simp at h1); (try simp at h2); omega)
 have D_X2_RA : Hid (∀ b, b ∈ Xf2 -> b ∉ Rf0 ++ Rf1) := Lib.hid (fun b hb hb' => by have h1 := SlR.lt (slR_fits reqR_fits) X2.out b hb; have h2 := n.lo b (List.mem_append_left _ hb'); (try simp at h1); (try simp at h2); omega)
 have D_XE__RA : Hid (∀ b, b ∈ XEf -> b ∉ Rf0 ++ Rf1) := Lib.hid (fun b hb hb' => by have h1 := SlR.lt evR_fits XE_.out b hb; have h2 := n.lo b (List.mem_append_left _ hb'); (try simp at h1); (try simp at h2); omega)
 have M_P_RA : Hid (w.heap.size ∉ Rf0 ++ Rf1) := Lib.hid (fun hb' => by have h1 := block_of_cell Q_P_0; have h2 := n.lo _ (List.mem_append_left _ hb'); (try simp at h1); (try simp at h2); omega)
 have M_T_RA : Hid (w5.heap.size ∉ Rf0 ++ Rf1) := Lib.hid (fun hb' => by have h1 := block_of_cell Q_T_0; have h2 := n.lo _ (List.mem_append_left _ hb'); (try simp at h1); (try simp at h2); omega)
 have M_X_RA : Hid (w6.heap.size ∉ Rf0 ++ Rf1) := Lib.hid (fun hb' => by have h1 := block_of_cell Q_X_0; have h2 := n.lo _ (List.mem_append_left _ hb'); (try simp at h1); (try simp at h2); omega)
 have LO_RA : Hid (∀ b, b ∈ Rf0 ++ Rf1 -> w.heap.size <= b) := Lib.hid (fun b hb => by have h1 := n.lo b (List.mem_append_left _ hb); have h2 := B.out.size; (try simp at h1); (try simp at h2); omega)
 have D_A0_0_RJ : Hid (∀ b, b ∈ fp0_0 -> b ∉ Rf2) := Lib.hid (fun b hb hb' => by have h1 := SlR.lt mrR_fits A0_0.out b hb; have h2 := n.lo b (List.mem_append_right _ hb'); (try simp at h1); (try simp at h2); omega)
 have D_A0_1_RJ : Hid (∀ b, b ∈ fp0_1 -> b ∉ Rf2) := Lib.hid (fun b hb hb' => by have h1 := SlR.lt intR_fits A0_1.out b hb; have h2 := n.lo b (List.mem_append_right _ hb'); (try simp at h1); (try simp at h2); omega)
 have D_A0_2_RJ : Hid (∀ b, b ∈ fp0_2 -> b ∉ Rf2) := Lib.hid (fun b hb hb' => by have h1 := SlR.lt (slR_fits reqR_fits) A0_2.out b hb; have h2 := n.lo b (List.mem_append_right _ hb'); (try simp at h1); (try simp at h2); omega)
 have D_A1_RJ : Hid (∀ b, b ∈ fp1 -> b ∉ Rf2) := Lib.hid (fun b hb hb' => by have h1 := SlR.lt evR_fits A1.out b hb; have h2 := n.lo b (List.mem_append_right _ hb'); (try simp at h1); (try simp at h2); omega)
 have D_T0_RJ : Hid (∀ b, b ∈ Tf0 -> b ∉ Rf2) := Lib.hid (fun b hb hb' => by have h1 := SlR.lt intR_fits T0.out b hb; have h2 := n.lo b (List.mem_append_right _ hb'); (try simp at h1); (try simp at h2); omega)
 have D_T1_RJ : Hid (∀ b, b ∈ Tf1 -> b ∉ Rf2) := Lib.hid (fun b hb hb' => by have h1 := SlR.lt intR_fits T1.out b hb; have h2 := n.lo b (List.mem_append_right _ hb'); (try simp at h1); (try simp at h2); omega)
 have D_T2_RJ : Hid (∀ b, b ∈ Tf2 -> b ∉ Rf2) := Lib.hid (fun b hb hb' => by have h1 := SlR.lt jobR_fits T2.out b hb; have h2 := n.lo b (List.mem_append_right _ hb'); (try simp at h1); (try simp at h2); omega)
 have D_X0_RJ : Hid (∀ b, b ∈ Xf0 -> b ∉ Rf2) := Lib.hid (fun b hb hb' => by have h1 := SlR.lt mrR_fits X0.out b hb; have h2 := n.lo b (List.mem_append_right _ hb'); (try simp at h1); (try simp at h2); omega)
 have D_X1_RJ : Hid (∀ b, b ∈ Xf1 -> b ∉ Rf2) := Lib.hid (fun b hb hb' => by have h1 := SlR.lt intR_fits X1.out b hb; have h2 := n.lo b (List.mem_append_right _ hb'); (try simp at h1); (try simp at h2); omega)
 have D_X2_RJ : Hid (∀ b, b ∈ Xf2 -> b ∉ Rf2) := Lib.hid (fun b hb hb' => by have h1 := SlR.lt (slR_fits reqR_fits) X2.out b hb; have h2 := n.lo b (List.mem_append_right _ hb'); (try simp at h1); (try simp at h2); omega)
 have D_XE__RJ : Hid (∀ b, b ∈ XEf -> b ∉ Rf2) := Lib.hid (fun b hb hb' => by have h1 := SlR.lt evR_fits XE_.out b hb; have h2 := n.lo b (List.mem_append_right _ hb'); (try simp at h1); (try simp at h2); omega)
 have M_P_RJ : Hid (w.heap.size ∉ Rf2) := Lib.hid (fun hb' => by have h1 := block_of_cell Q_P_0; have h2 := n.lo _ (List.mem_append_right _ hb'); (try simp at h1); (try simp at h2); omega)
 have M_T_RJ : Hid (w5.heap.size ∉ Rf2) := Lib.hid (fun hb' => by have h1 := block_of_cell Q_T_0; have h2 := n.lo _ (List.mem_append_right _ hb'); (try simp at h1); (try simp at h2); omega)
 have M_X_RJ : Hid (w6.heap.size ∉ Rf2) := Lib.hid (fun hb' => by have h1 := block_of_cell Q_X_0; have h2 := n.lo _ (List.mem_append_right _ hb'); (try simp at h1); (try simp at h2); omega)
 have LO_RJ : Hid (∀ b, b ∈ Rf2 -> w.heap.size <= b) := Lib.hid (fun b hb => by have h1 := n.lo b (List.mem_append_right _ hb); have h2 := B.out.size; (try simp at h1); (try simp at h2); omega)
 have D_R0_X : Hid (∀ b, b ∈ Rf0 -> b ∉ Xf0 ++ Xf1 ++ Xf2) := Lib.hid (fun b hb hb' => by have h1 := W_X.out b hb'; have h2 := n.lo b (by simp [hb]); (try simp at h1); (try simp at h2); omega)
 have D_R0_XE : Hid (∀ b, b ∈ Rf0 -> b ∉ XEf) := Lib.hid (fun b hb hb' => by have h1 := W_XE.out b hb'; have h2 := n.lo b (by simp [hb]); (try simp at h1); (try simp at h2); omega)
 have D_R1_X : Hid (∀ b, b ∈ Rf1 -> b ∉ Xf0 ++ Xf1 ++ Xf2) := Lib.hid (fun b hb hb' => by have h1 := W_X.out b hb'; have h2 := n.lo b (by simp [hb]); (try simp at h1); (try simp at h2); omega)
 have D_R1_XE : Hid (∀ b, b ∈ Rf1 -> b ∉ XEf) := Lib.hid (fun b hb hb' => by have h1 := W_XE.out b hb'; have h2 := n.lo b (by simp [hb]); (try simp at h1); (try simp at h2); omega)
 have D_R2_X : Hid (∀ b, b ∈ Rf2 -> b ∉ Xf0 ++ Xf1 ++ Xf2) := Lib.hid (fun b hb hb' => by have h1 := W_X.out b hb'; have h2 := n.lo b (by simp [hb]); (try simp at h1); (try simp at h2); omega)
 have D_R2_XE : Hid (∀ b, b ∈ Rf2 -> b ∉ XEf) := Lib.hid (fun b hb hb' => by have h1 := W_XE.out b hb'; have h2 := n.lo b (by simp [hb]); (try simp at h1); (try simp at h2); omega)
 have D_R2_RA : Hid (∀ b, b ∈ Rf2 -> b ∉ Rf0 ++ Rf1) := Lib.hid (fun b hb hb' => (List.nodup_append.1 n.once).2.2 b hb' b hb rfl)
 have D_R0_RJ : Hid (∀ b, b ∈ Rf0 -> b ∉ Rf2) := Lib.hid (fun b hb hb' => (List.nodup_append.1 n.once).2.2 b (by simp [hb]) b hb' rfl)
 have D_R1_RJ : Hid (∀ b, b ∈ Rf1 -> b ∉ Rf2) := Lib.hid (fun b hb hb' => (List.nodup_append.1 n.once).2.2 b (by simp [hb]) b hb' rfl)
 replace A0_0 := Lib.hid (SlR.below mrR_fits A0_0.out b)
 replace A0_1 := Lib.hid (SlR.below intR_fits A0_1.out b)
 replace A0_2 := Lib.hid (SlR.below (slR_fits reqR_fits) A0_2.out b)
 replace A1 := Lib.hid (SlR.below evR_fits A1.out b)
 replace T0 := Lib.hid (SlR.below intR_fits T0.out b)
 replace T1 := Lib.hid (SlR.below intR_fits T1.out b)
 replace T2 := Lib.hid (SlR.below jobR_fits T2.out b)
 replace X0 := Lib.hid (SlR.below mrR_fits X0.out b)
 replace X1 := Lib.hid (SlR.below intR_fits X1.out b)
 replace X2 := Lib.hid (SlR.below (slR_fits reqR_fits) X2.out b)
 replace XE_ := Lib.hid (SlR.below evR_fits XE_.out b)
 replace Q_P_0 := keep_cell b Q_P_0
 replace Q_P_1 := keep_cell b Q_P_1
 replace Q_P_2 := keep_cell b Q_P_2
 replace Q_T_0 := keep_cell b Q_T_0
 replace Q_T_1 := keep_cell b Q_T_1
 replace Q_X_0 := keep_cell b Q_X_0
 replace Q_X_1 := keep_cell b Q_X_1
 replace Q_X_2 := keep_cell b Q_X_2
 replace F_X := Lib.hid (Free.below F_X.out W_X.out b)
 replace W_X := Lib.hid (fun q hq => Nat.lt_of_lt_of_le (W_X.out q hq) b.size)
 replace F_XE := Lib.hid (Free.below F_XE.out W_XE.out b)
 replace W_XE := Lib.hid (fun q hq => Nat.lt_of_lt_of_le (W_XE.out q hq) b.size)
 replace B := Lib.hid (B.out.trans (b.mono B.out.size))
 have R0 := Lib.hid Rg0
 have R1 := Lib.hid Rg1
 have R2 := Lib.hid Rg2
 have F_RA := Lib.hid (fun b hb => n.free b (List.mem_append_left _ hb))
 have ON_RA := Lib.hid ((List.nodup_append.1 n.once).1)
 have W_RA : Hid (∀ b, b ∈ Rf0 ++ Rf1 -> b < w8.heap.size) := Lib.hid ((all_app (T := fun b => b < w8.heap.size) (Rg0.lt intR_fits) (Rg1.lt intR_fits)))
 have F_RJ := Lib.hid (fun b hb => n.free b (List.mem_append_right _ hb))
 have ON_RJ := Lib.hid ((List.nodup_append.1 n.once).2.1)
 have W_RJ : Hid (∀ b, b ∈ Rf2 -> b < w8.heap.size) := Lib.hid (Rg2.lt jobR_fits)
 clear n b Rg0 Rg1 Rg2
 have ba := below_alloc w8 (.cells #[.slice Ra0 Rl0 Rk0, .slice Ra1 Rl1 Rk1] 33)
 have M_R_X : Hid (w8.heap.size ∉ Xf0 ++ Xf1 ++ Xf2) := Lib.hid (fun hb => by have := W_X.out _ hb; omega)
 have M_R_XE : Hid (w8.heap.size ∉ XEf) := Lib.hid (fun hb => by have := W_XE.out _ hb; omega)
 have M_R_RA : Hid (w8.heap.size ∉ Rf0 ++ Rf1) := Lib.hid (fun hb => by have := W_RA.out _ hb; omega)
 have M_R_RJ : Hid (w8.heap.size ∉ Rf2) := Lib.hid (fun hb => by have := W_RJ.out _ hb; omega)
 replace A0_0 := Lib.hid (SlR.below mrR_fits A0_0.out ba)
 replace A0_1 := Lib.hid (SlR.below intR_fits A0_1.out ba)
 replace A0_2 := Lib.hid (SlR.below (slR_fits reqR_fits) A0_2.out ba)
 replace A1 := Lib.hid (SlR.below evR_fits A1.out ba)
 replace T0 := Lib.hid (SlR.below intR_fits T0.out ba)
 replace T1 := Lib.hid (SlR.below intR_fits T1.out ba)
 replace T2 := Lib.hid (SlR.below jobR_fits T2.out ba)
 replace X0 := Lib.hid (SlR.below mrR_fits X0.out ba)
 replace X1 := Lib.hid (SlR.below intR_fits X1.out ba)
 replace X2 := Lib.hid (SlR.below (slR_fits reqR_fits) X2.out ba)
 replace XE_ := Lib.hid (SlR.below evR_fits XE_.out ba)
 replace R0 := Lib.hid (SlR.below intR_fits R0.out ba)
 replace R1 := Lib.hid (SlR.below intR_fits R1.out ba)
 replace R2 := Lib.hid (SlR.below jobR_fits R2.out ba)
 replace Q_P_0 := keep_cell ba Q_P_0
 replace Q_P_1 := keep_cell ba Q_P_1
 replace Q_P_2 := keep_cell ba Q_P_2
 replace Q_T_0 := keep_cell ba Q_T_0
 replace Q_T_1 := keep_cell ba Q_T_1
 replace Q_X_0 := keep_cell ba Q_X_0
 replace Q_X_1 := keep_cell ba Q_X_1
 replace Q_X_2 := keep_cell ba Q_X_2
 replace F_X := Lib.hid (Free.below F_X.out W_X.out ba)
 replace W_X := Lib.hid (fun q hq => Nat.lt_of_lt_of_le (W_X.out q hq) ba.size)
 replace F_XE := Lib.hid (Free.below F_XE.out W_XE.out ba)
 replace W_XE := Lib.hid (fun q hq => Nat.lt_of_lt_of_le (W_XE.out q hq) ba.size)
 replace F_RA := Lib.hid (Free.below F_RA.out W_RA.out ba)
 replace W_RA := Lib.hid (fun q hq => Nat.lt_of_lt_of_le (W_RA.out q hq) ba.size)
 replace F_RJ := Lib.hid (Free.below F_RJ.out W_RJ.out ba)
 replace W_RJ := Lib.hid (fun q hq => Nat.lt_of_lt_of_le (W_RJ.out q hq) ba.size)
 replace B := Lib.hid (B.out.trans (ba.mono B.out.size))
 have Q_R_0 := alloc1_new w8 #[.slice Ra0 Rl0 Rk0, .slice Ra1 Rl1 Rk1] 33 0 rfl
 have Q_R_1 := alloc1_new w8 #[.slice Ra0 Rl0 Rk0, .slice Ra1 Rl1 Rk1] 33 1 rfl
 clear ba
 go_wp2_with fail
 refine (eq_Atm (atmOrder x0 x1).1 (atmOrder x0 x1).1 _ _ _ _ Rf0 Rf1 Tf0 Tf1 _ R0.out R1.out T0.out T1.out).mono ?_
 rw [decide_eq_true rfl]
 rintro e w9 ⟨rfl, b⟩
 replace A0_0 := Lib.hid (SlR.below mrR_fits A0_0.out b)
 replace A0_1 := Lib.hid (SlR.below intR_fits A0_1.out b)
 replace A0_2 := Lib.hid (SlR.below (slR_fits reqR_fits) A0_2.out b)
 replace A1 := Lib.hid (SlR.below evR_fits A1.out b)
 replace T0 := Lib.hid (SlR.below intR_fits T0.out b)
 replace T1 := Lib.hid (SlR.below intR_fits T1.out b)
 replace T2 := Lib.hid (SlR.below jobR_fits T2.out b)
 replace X0 := Lib.hid (SlR.below mrR_fits X0.out b)
 replace X1 := Lib.hid (SlR.below intR_fits X1.out b)
 replace X2 := Lib.hid (SlR.below (slR_fits reqR_fits) X2.out b)
 replace XE_ := Lib.hid (SlR.below evR_fits XE_.out b)
 replace R0 := Lib.hid (SlR.below intR_fits R0.out b)
 replace R1 := Lib.hid (SlR.below intR_fits R1.out b)
 replace R2 := Lib.hid (SlR.below jobR_fits R2.out b)
 replace Q_P_0 := keep_cell b Q_P_0
 replace Q_P_1 := keep_cell b Q_P_1
 replace Q_P_2 := keep_cell b Q_P_2
 replace Q_T_0 := keep_cell b Q_T_0
 replace Q_T_1 := keep_cell b Q_T_1
 replace Q_X_0 := keep_cell b Q_X_0
 replace Q_X_1 := keep_cell b Q_X_1
 replace Q_X_2 := keep_cell b Q_X_2
 replace Q_R_0 := keep_cell b Q_R_0
 replace Q_R_1 := keep_cell b Q_R_1
 replace F_X := Lib.hid (Free.below F_X.out W_X.out b)
 replace W_X := Lib.hid (fun q hq => Nat.lt_of_lt_of_le (W_X.out q hq) b.size)
 replace F_XE := Lib.hid (Free.below F_XE.out W_XE.out b)
 replace W_XE := Lib.hid (fun q hq => Nat.lt_of_lt_of_le (W_XE.out q hq) b.size)
 replace F_RA := Lib.hid (Free.below F_RA.out W_RA.out b)
 replace W_RA := Lib.hid (fun q hq => Nat.lt_of_lt_of_le (W_RA.out q hq) b.size)
 replace F_RJ := Lib.hid (Free.below F_RJ.out W_RJ.out b)
 replace W_RJ := Lib.hid (fun q hq => Nat.lt_of_lt_of_le (W_RJ.out q hq) b.size)
 replace B := Lib.hid (B.out.trans (b.mono B.out.size))
 clear b
 go_wp2_with fail
 refine (eq_jobs _ _ (atmOrder x0 x1).2 (atmOrder x0 x1).2 Rf2 Tf2 _ R2.out T2.out).mono ?_
 rw [decide_eq_true rfl]
 rintro e w10 ⟨rfl, b⟩
 replace A0_0 := Lib.hid (SlR.below mrR_fits A0_0.out b)
 replace A0_1 := Lib.hid (SlR.below intR_fits A0_1.out b)
 replace A0_2 := Lib.hid (SlR.below (slR_fits reqR_fits) A0_2.out b)
 replace A1 := Lib.hid (SlR.below evR_fits A1.out b)
 replace T0 := Lib.hid (SlR.below intR_fits T0.out b)
 replace T1 := Lib.hid (SlR.below intR_fits T1.out b)
 replace T2 := Lib.hid (SlR.below jobR_fits T2.out b)
 replace X0 := Lib.hid (SlR.below mrR_fits X0.out b)
 replace X1 := Lib.hid (SlR.below intR_fits X1.out b)
 replace X2 := Lib.hid (SlR.below (slR_fits reqR_fits) X2.out b)
 replace XE_ := Lib.hid (SlR.below evR_fits XE_.out b)
 replace R0 := Lib.hid (SlR.below intR_fits R0.out b)
 replace R1 := Lib.hid (SlR.below intR_fits R1.out b)
 replace R2 := Lib.hid (SlR.below jobR_fits R2.out b)
 replace Q_P_0 := keep_cell b Q_P_0
 replace Q_P_1 := keep_cell b Q_P_1
 replace Q_P_2 := keep_cell b Q_P_2
 replace Q_T_0 := keep_cell b Q_T_0
 replace Q_T_1 := keep_cell b Q_T_1
 replace Q_X_0 := keep_cell b Q_X_0
 replace Q_X_1 := keep_cell b Q_X_1
 replace Q_X_2 := keep_cell b Q_X_2
 replace Q_R_0 := keep_cell b Q_R_0
 replace Q_R_1 := keep_cell b Q_R_1
 replace F_X := Lib.hid (Free.below F_X.out W_X.out b)
 replace W_X := Lib.hid (fun q hq => Nat.lt_of_lt_of_le (W_X.out q hq) b.size)
 replace F_XE := Lib.hid (Free.below F_XE.out W_XE.out b)
 replace W_XE := Lib.hid (fun q hq => Nat.lt_of_lt_of_le (W_XE.out q hq) b.size)
 replace F_RA := Lib.hid (Free.below F_RA.out W_RA.out b)
 replace W_RA := Lib.hid (fun q hq => Nat.lt_of_lt_of_le (W_RA.out q hq) b.size)
 replace F_RJ := Lib.hid (Free.below F_RJ.out W_RJ.out b)
 replace W_RJ := Lib.hid (fun q hq => Nat.lt_of_lt_of_le (W_RJ.out q hq) b.size)
 replace B := Lib.hid (B.out.trans (b.mono B.out.size))
 clear b
 go_upto_region 14 with fail
 have hst : ∀ F, F ∈ [FEq (.agg #[.slice Xa0 Xl0 Xk0, .slice Xa1 Xl1 Xk1, .slice Xa2 Xl2 Xk2]), FEq (.agg #[.slice al0_0 ln0_0 kn0_0, .slice al0_1 ln0_1 kn0_1, .slice al0_2 ln0_2 kn0_2]), FTo_Bus x0, FEq (.bool true), FEq (.bool false)] -> Stable [] F := by
  simp only [List.forall_mem_cons]
  exact ⟨stEq _ _, stEq _ _, stTo_Bus _, stEq _ _, stEq _ _, fun _ h => by simp at h⟩
 refine wp_region_rule (by kernel_rfl) (fun i => ([[], [], [1], [0, 1, 2], [0, 1, 2, 3]] : List (List Nat)).getD i []) (facts [FEq (.agg #[.slice Xa0 Xl0 Xk0, .slice Xa1 Xl1 Xk1, .slice Xa2 Xl2 Xk2]), FEq (.agg #[.slice al0_0 ln0_0 kn0_0, .slice al0_1 ln0_1 kn0_1, .slice al0_2 ln0_2 kn0_2]), FTo_Bus x0, FEq (.bool true), FEq (.bool false)]) (fun _ w' => Below w10.heap.size w10 w') 135 5 [some 55, some 56, some 57, some 58, some 59] rfl rfl rfl (by kernel_rfl) ?h0 (all_lt (n := 5) ?hop) ?hend
 case h0 => exact (Below.refl _ _).drew
 case hop =>
  refine ⟨⟨⟨⟨⟨trivial, ?_⟩, ?_⟩, ?_⟩, ?_⟩, ?_⟩
  · refine Owes.mk _ rfl rfl (fun _ _ h => by cases h) fun u m w' hm hI hR => ⟨⟨#[undef, undef, undef, undef, undef, undef, undef, undef, .pointer (some ⟨w6.heap.size, 0, none⟩), undef, undef, undef, undef, undef, undef, undef, undef, undef, undef, undef, undef, undef, undef, undef, undef, undef, undef, undef, undef, undef, undef, undef, undef, undef, undef, undef, undef, undef, undef, undef, undef, undef, undef, undef, undef, undef, undef, undef, undef, undef, undef, undef, undef, undef, undef, undef, undef, undef, undef, undef, undef, undef, undef, undef, undef, undef, undef, undef, undef, undef, undef, undef, undef, undef, undef, undef, undef, undef, undef, undef, undef, undef, undef, undef, undef, undef, undef, undef, undef, undef, undef, undef, undef, undef, undef, undef, undef, undef, undef, undef, undef, undef, undef, undef, undef, undef, undef, undef, undef, undef, undef, undef, undef, undef, undef, undef, undef, undef, undef, undef, undef, undef, undef, undef, undef, undef, undef, undef, undef, undef, undef, undef, undef, undef, undef], []⟩, rfl, fun d hd => by cases hd; exact (by decide : 55 < 135), ?_⟩
    have k0 := keep_cell hI Q_X_0
    have k1 := keep_cell hI Q_X_1
    have k2 := keep_cell hI Q_X_2
    have HI := Lib.hid hI
    clear hI hR hst
    go_wp2
    exact ⟨rfl, _, rfl, rfl, HI.out, fun _ _ h => h⟩
  · refine Owes.mk _ rfl rfl (fun _ _ h => by cases h) fun u m w' hm hI hR => ⟨⟨#[undef, undef, .pointer (some ⟨w.heap.size, 0, none⟩), undef, undef, undef, undef, undef, undef, undef, undef, undef, undef, undef, undef, undef, undef, undef, undef, undef, undef, undef, undef, undef, undef, undef, undef, undef, undef, undef, undef, undef, undef, undef, undef, undef, undef, undef, undef, undef, undef, undef, undef, undef, undef, undef, undef, undef, undef, undef, undef, undef, undef, undef, undef, undef, undef, undef, undef, undef, undef, undef, undef, undef, undef, undef, undef, undef, undef, undef, undef, undef, undef, undef, undef, undef, undef, undef, undef, undef, undef, undef, undef, undef, undef, undef, undef, undef, undef, undef, undef, undef, undef, undef, undef, undef, undef, undef, undef, undef, undef, undef, undef, undef, undef, undef, undef, undef, undef, undef, undef, undef, undef, undef, undef, undef, undef, undef, undef, undef, undef, undef, undef, undef, undef, undef, undef, undef, undef, undef, undef, undef, undef, undef, undef], []⟩, rfl, fun d hd => by cases hd; exact (by decide : 56 < 135), ?_⟩
    have k0 := keep_cell hI Q_P_0
    have k1 := keep_cell hI Q_P_1
    have k2 := keep_cell hI Q_P_2
    have HI := Lib.hid hI
    clear hI hR hst
    go_wp2
    exact ⟨rfl, _, rfl, rfl, HI.out, fun _ _ h => h⟩
  · refine Owes.mk _ rfl rfl (fun _ _ h => by cases h) fun u m w' hm hI hR => ⟨⟨#[undef, undef, undef, undef, undef, undef, undef, undef, undef, undef, undef, undef, undef, undef, undef, undef, undef, undef, undef, undef, undef, undef, undef, undef, undef, undef, undef, undef, undef, undef, undef, undef, undef, undef, undef, undef, undef, undef, undef, undef, undef, undef, undef, undef, undef, undef, undef, undef, undef, undef, undef, undef, undef, undef, undef, undef, u 1, undef, undef, undef, undef, undef, undef, undef, undef, undef, undef, undef, undef, undef, undef, undef, undef, undef, undef, undef, undef, undef, undef, undef, undef, undef, undef, undef, undef, undef, undef, undef, undef, undef, undef, undef, undef, undef, undef, undef, undef, undef, undef, undef, undef, undef, undef, undef, undef, undef, undef, undef, undef, undef, undef, undef, undef, undef, undef, undef, undef, undef, undef, undef, undef, undef, undef, undef, undef, undef, undef, undef, undef, undef, undef, undef, undef, undef, undef], []⟩, rfl, fun d hd => by cases hd; exact (by decide : 57 < 135), ?_⟩
    have ea0 : u 1 = _ := hR 1 (by decide)
    rw [ea0]
    clear ea0
    clear hR
    go_wp2_with fail
    refine (to_Bus x0 _ _ _ fp0_0 fp0_1 fp0_2 SM0.out _ (A0_0.out.below mrR_fits hI) (A0_1.out.below intR_fits hI) (A0_2.out.below (slR_fits reqR_fits) hI)).mono ?_
    rintro e w2 ⟨v'0, fq0, v'1, fq1, v'2, fq2, rfl, g'0, g'1, g'2, n', b2⟩
    have hs := facts_stable hst (b2.chg [])
    have HF := Lib.hid (show (FTo_Bus x0) _ w2 from ⟨v'0, v'1, v'2, fq0, fq1, fq2, rfl, g'0, g'1, g'2⟩)
    have HS := Lib.hid hs
    have HI := Lib.hid (hI.trans (b2.mono hI.size))
    clear hs hI b2 hst g'0 g'1 g'2 n'
    go_wp2
    exact ⟨rfl, _, rfl, HF.out, HI.out, HS.out⟩
  · refine Owes.mk _ rfl rfl (fun _ _ h => by cases h) fun u m w' hm hI hR => ⟨⟨#[undef, undef, undef, undef, undef, undef, undef, undef, undef, undef, undef, undef, undef, undef, undef, undef, undef, undef, undef, undef, undef, undef, undef, undef, undef, undef, undef, undef, undef, undef, undef, undef, undef, undef, undef, undef, undef, undef, undef, undef, undef, undef, undef, undef, undef, undef, undef, undef, undef, undef, undef, undef, undef, undef, undef, u 0, undef, u 2, undef, undef, undef, undef, undef, undef, undef, undef, undef, undef, undef, undef, undef, undef, undef, undef, undef, undef, undef, undef, undef, undef, undef, undef, undef, undef, undef, undef, undef, undef, undef, undef, undef, undef, undef, undef, undef, undef, undef, undef, undef, undef, undef, undef, undef, undef, undef, undef, undef, undef, undef, undef, undef, undef, undef, undef, undef, undef, undef, undef, undef, undef, undef, undef, undef, undef, undef, undef, undef, undef, undef, undef, undef, undef, undef, undef, undef], []⟩, rfl, fun d hd => by cases hd; exact (by decide : 58 < 135), ?_⟩
    have ea0 : u 0 = _ := hR 0 (by decide)
    obtain ⟨va10, va11, va12, fqa10, fqa11, fqa12, ea1, ga10, ga11, ga12⟩ := hR 2 (by decide)
    rw [ea0, ea1]
    clear ea0 ea1
    clear hR
    go_wp2_with fail
    refine (eq_Bus x0 x0 _ _ _ _ _ _ Xf0 Xf1 Xf2 fqa10 fqa11 fqa12 _ (X0.out.below mrR_fits hI) (X1.out.below intR_fits hI) (X2.out.below (slR_fits reqR_fits) hI) ga10 ga11 ga12).mono ?_
    rw [decide_eq_true rfl]
    rintro e w2 ⟨rfl, b2⟩
    have hs := facts_stable hst (b2.chg [])
    have HF := Lib.hid (show (FEq (.bool true)) _ w2 from rfl)
    have HS := Lib.hid hs
    have HI := Lib.hid (hI.trans (b2.mono hI.size))
    clear hs hI b2 hst ga10 ga11 ga12
    go_wp2
    exact ⟨rfl, _, rfl, HF.out, HI.out, HS.out⟩
  · refine Owes.mk _ rfl rfl (fun _ _ h => by cases h) fun u m w' hm hI hR => ⟨⟨#[undef, undef, undef, undef, undef, undef, undef, undef, undef, undef, undef, undef, undef, undef, undef, undef, undef, undef, undef, undef, undef, undef, undef, undef, undef, undef, undef, undef, undef, undef, undef, undef, undef, undef, undef, undef, undef, undef, undef, undef, undef, undef, undef, undef, undef, undef, undef, undef, undef, undef, undef, undef, undef, undef, undef, undef, undef, undef, u 3, undef, undef, undef, undef, undef, undef, undef, undef, undef, undef, undef, undef, undef, undef, undef, undef, undef, undef, undef, undef, undef, undef, undef, undef, undef, undef, undef, undef, undef, undef, undef, undef, undef, undef, undef, undef, undef, undef, undef, undef, undef, undef, undef, undef, undef, undef, undef, undef, undef, undef, undef, undef, undef, undef, undef, undef, undef, undef, undef, undef, undef, undef, undef, undef, undef, undef, undef, undef, undef, undef, undef, undef, undef, undef, undef, undef], []⟩, rfl, fun d hd => by cases hd; exact (by decide : 59 < 135), ?_⟩
    have ea : u 3 = _ := hR 3 (by decide)
    rw [ea]
    clear ea
    have HI := Lib.hid hI
    clear hI hR hst
    go_wp2
    exact ⟨rfl, _, rfl, rfl, HI.out, fun _ _ h => h⟩
 case hend =>
  intro u w' hI hR
  simp only [setAll, List.set_cons_zero, List.set_cons_succ]
  have e0 : u 0 = _ := hR 0 (by decide)
  have e1 : u 1 = _ := hR 1 (by decide)
  obtain ⟨vr2_0, vr2_1, vr2_2, fr2_0, fr2_1, fr2_2, e2, gr2_0, gr2_1, gr2_2⟩ := hR 2 (by decide)
  have e3 : u 3 = _ := hR 3 (by decide)
  have e4 : u 4 = _ := hR 4 (by decide)
  have HE := Lib.hid hI
  clear hR hI hst gr2_0 gr2_1 gr2_2
  simp only [Nat.zero_add, Nat.reduceAdd]
  rw [e0, e1, e2, e3, e4]
  clear e0 e1 e2 e3 e4
  have b : Below w10.heap.size w10 w' := HE.out
  obtain ⟨w11, hw⟩ : ∃ W, W = w' := ⟨_, rfl⟩
  rw [<- hw] at b ⊢
  clear hw HE
  replace A0_0 := Lib.hid (SlR.below mrR_fits A0_0.out b)
  replace A0_1 := Lib.hid (SlR.below intR_fits A0_1.out b)
  replace A0_2 := Lib.hid (SlR.below (slR_fits reqR_fits) A0_2.out b)
  replace A1 := Lib.hid (SlR.below evR_fits A1.out b)
  replace T0 := Lib.hid (SlR.below intR_fits T0.out b)
  replace T1 := Lib.hid (SlR.below intR_fits T1.out b)
  replace T2 := Lib.hid (SlR.below jobR_fits T2.out b)
  replace X0 := Lib.hid (SlR.below mrR_fits X0.out b)
  replace X1 := Lib.hid (SlR.below intR_fits X1.out b)
  replace X2 := Lib.hid (SlR.below (slR_fits reqR_fits) X2.out b)
  replace XE_ := Lib.hid (SlR.below evR_fits XE_.out b)
  replace R0 := Lib.hid (SlR.below intR_fits R0.out b)
  replace R1 := Lib.hid (SlR.below intR_fits R1.out b)
  replace R2 := Lib.hid (SlR.below jobR_fits R2.out b)
  replace Q_P_0 := keep_cell b Q_P_0
  replace Q_P_1 := keep_cell b Q_P_1
  replace Q_P_2 := keep_cell b Q_P_2
  replace Q_T_0 := keep_cell b Q_T_0
  replace Q_T_1 := keep_cell b Q_T_1
  replace Q_X_0 := keep_cell b Q_X_0
  replace Q_X_1 := keep_cell b Q_X_1
  replace Q_X_2 := keep_cell b Q_X_2
  replace Q_R_0 := keep_cell b Q_R_0
  replace Q_R_1 := keep_cell b Q_R_1
  replace F_X := Lib.hid (Free.below F_X.out W_X.out b)
  replace W_X := Lib.hid (fun q hq => Nat.lt_of_lt_of_le (W_X.out q hq) b.size)
  replace F_XE := Lib.hid (Free.below F_XE.out W_XE.out b)
  replace W_XE := Lib.hid (fun q hq => Nat.lt_of_lt_of_le (W_XE.out q hq) b.size)
  replace F_RA := Lib.hid (Free.below F_RA.out W_RA.out b)
  replace W_RA := Lib.hid (fun q hq => Nat.lt_of_lt_of_le (W_RA.out q hq) b.size)
  replace F_RJ := Lib.hid (Free.below F_RJ.out W_RJ.out b)
  replace W_RJ := Lib.hid (fun q hq => Nat.lt_of_lt_of_le (W_RJ.out q hq) b.size)
  replace B := Lib.hid (B.out.trans (b.mono B.out.size))
  clear b
  go_wp2_with fail
  refine (to_evs _ x1 fp1 SM1.out _ A1.out).mono ?_
  rintro e w12 ⟨Zv, Zf, rfl, Zg, n, b⟩
  obtain ⟨Za, Zl, Zk, rfl⟩ := Zg.form
  replace A0_0 := Lib.hid (SlR.below mrR_fits A0_0.out b)
  replace A0_1 := Lib.hid (SlR.below intR_fits A0_1.out b)
  replace A0_2 := Lib.hid (SlR.below (slR_fits reqR_fits) A0_2.out b)
  replace A1 := Lib.hid (SlR.below evR_fits A1.out b)
  replace T0 := Lib.hid (SlR.below intR_fits T0.out b)
  replace T1 := Lib.hid (SlR.below intR_fits T1.out b)
  replace T2 := Lib.hid (SlR.below jobR_fits T2.out b)
  replace X0 := Lib.hid (SlR.below mrR_fits X0.out b)
  replace X1 := Lib.hid (SlR.below intR_fits X1.out b)
  replace X2 := Lib.hid (SlR.below (slR_fits reqR_fits) X2.out b)
  replace XE_ := Lib.hid (SlR.below evR_fits XE_.out b)
  replace R0 := Lib.hid (SlR.below intR_fits R0.out b)
  replace R1 := Lib.hid (SlR.below intR_fits R1.out b)
  replace R2 := Lib.hid (SlR.below jobR_fits R2.out b)
  replace Q_P_0 := keep_cell b Q_P_0
  replace Q_P_1 := keep_cell b Q_P_1
  replace Q_P_2 := keep_cell b Q_P_2
  replace Q_T_0 := keep_cell b Q_T_0
  replace Q_T_1 := keep_cell b Q_T_1
  replace Q_X_0 := keep_cell b Q_X_0
  replace Q_X_1 := keep_cell b Q_X_1
  replace Q_X_2 := keep_cell b Q_X_2
  replace Q_R_0 := keep_cell b Q_R_0
  replace Q_R_1 := keep_cell b Q_R_1
  replace F_X := Lib.hid (Free.below F_X.out W_X.out b)
  replace W_X := Lib.hid (fun q hq => Nat.lt_of_lt_of_le (W_X.out q hq) b.size)
  replace F_XE := Lib.hid (Free.below F_XE.out W_XE.out b)
  replace W_XE := Lib.hid (fun q hq => Nat.lt_of_lt_of_le (W_XE.out q hq) b.size)
  replace F_RA := Lib.hid (Free.below F_RA.out W_RA.out b)
  replace W_RA := Lib.hid (fun q hq => Nat.lt_of_lt_of_le (W_RA.out q hq) b.size)
  replace F_RJ := Lib.hid (Free.below F_RJ.out W_RJ.out b)
  replace W_RJ := Lib.hid (fun q hq => Nat.lt_of_lt_of_le (W_RJ.out q hq) b.size)
  replace B := Lib.hid (B.out.trans (b.mono B.out.size))
  have Z_ := Lib.hid Zg
  clear n b Zg
  go_wp2_with fail
  refine (eq_evs _ _ x1 x1 XEf Zf _ XE_.out Z_.out).mono ?_
  rw [decide_eq_true rfl]
  rintro e w13 ⟨rfl, b⟩
  replace A0_0 := Lib.hid (SlR.below mrR_fits A0_0.out b)
  replace A0_1 := Lib.hid (SlR.below intR_fits A0_1.out b)
  replace A0_2 := Lib.hid (SlR.below (slR_fits reqR_fits) A0_2.out b)
  replace A1 := Lib.hid (SlR.below evR_fits A1.out b)
  replace T0 := Lib.hid (SlR.below intR_fits T0.out b)
  replace T1 := Lib.hid (SlR.below intR_fits T1.out b)
  replace T2 := Lib.hid (SlR.below jobR_fits T2.out b)
  replace X0 := Lib.hid (SlR.below mrR_fits X0.out b)
  replace X1 := Lib.hid (SlR.below intR_fits X1.out b)
  replace X2 := Lib.hid (SlR.below (slR_fits reqR_fits) X2.out b)
  replace XE_ := Lib.hid (SlR.below evR_fits XE_.out b)
  replace R0 := Lib.hid (SlR.below intR_fits R0.out b)
  replace R1 := Lib.hid (SlR.below intR_fits R1.out b)
  replace R2 := Lib.hid (SlR.below jobR_fits R2.out b)
  replace Z_ := Lib.hid (SlR.below evR_fits Z_.out b)
  replace Q_P_0 := keep_cell b Q_P_0
  replace Q_P_1 := keep_cell b Q_P_1
  replace Q_P_2 := keep_cell b Q_P_2
  replace Q_T_0 := keep_cell b Q_T_0
  replace Q_T_1 := keep_cell b Q_T_1
  replace Q_X_0 := keep_cell b Q_X_0
  replace Q_X_1 := keep_cell b Q_X_1
  replace Q_X_2 := keep_cell b Q_X_2
  replace Q_R_0 := keep_cell b Q_R_0
  replace Q_R_1 := keep_cell b Q_R_1
  replace F_X := Lib.hid (Free.below F_X.out W_X.out b)
  replace W_X := Lib.hid (fun q hq => Nat.lt_of_lt_of_le (W_X.out q hq) b.size)
  replace F_XE := Lib.hid (Free.below F_XE.out W_XE.out b)
  replace W_XE := Lib.hid (fun q hq => Nat.lt_of_lt_of_le (W_XE.out q hq) b.size)
  replace F_RA := Lib.hid (Free.below F_RA.out W_RA.out b)
  replace W_RA := Lib.hid (fun q hq => Nat.lt_of_lt_of_le (W_RA.out q hq) b.size)
  replace F_RJ := Lib.hid (Free.below F_RJ.out W_RJ.out b)
  replace W_RJ := Lib.hid (fun q hq => Nat.lt_of_lt_of_le (W_RJ.out q hq) b.size)
  replace B := Lib.hid (B.out.trans (b.mono B.out.size))
  clear b
  clear Z_
  go_wp2_with fail
  refine (mark_Bus x0 _ _ _ Xf0 Xf1 Xf2 1 (by omega) (by omega) SM0.out _ X0.out X1.out X2.out F_X.out ON_X.out).mono ?_
  rintro e w14 ⟨t0, rfl, tlo, thi, c⟩
  replace A0_0 := Lib.hid (SlR.chg mrR_fits A0_0.out c D_A0_0_X.out)
  replace A0_1 := Lib.hid (SlR.chg intR_fits A0_1.out c D_A0_1_X.out)
  replace A0_2 := Lib.hid (SlR.chg (slR_fits reqR_fits) A0_2.out c D_A0_2_X.out)
  replace A1 := Lib.hid (SlR.chg evR_fits A1.out c D_A1_X.out)
  replace T0 := Lib.hid (SlR.chg intR_fits T0.out c D_T0_X.out)
  replace T1 := Lib.hid (SlR.chg intR_fits T1.out c D_T1_X.out)
  replace T2 := Lib.hid (SlR.chg jobR_fits T2.out c D_T2_X.out)
  replace XE_ := Lib.hid (SlR.chg evR_fits XE_.out c D_XE__X.out)
  replace R0 := Lib.hid (SlR.chg intR_fits R0.out c D_R0_X.out)
  replace R1 := Lib.hid (SlR.chg intR_fits R1.out c D_R1_X.out)
  replace R2 := Lib.hid (SlR.chg jobR_fits R2.out c D_R2_X.out)
  replace Q_P_0 := keep_cell_chg c Q_P_0 M_P_X.out
  replace Q_P_1 := keep_cell_chg c Q_P_1 M_P_X.out
  replace Q_P_2 := keep_cell_chg c Q_P_2 M_P_X.out
  replace Q_T_0 := keep_cell_chg c Q_T_0 M_T_X.out
  replace Q_T_1 := keep_cell_chg c Q_T_1 M_T_X.out
  replace Q_X_0 := keep_cell_chg c Q_X_0 M_X_X.out
  replace Q_X_1 := keep_cell_chg c Q_X_1 M_X_X.out
  replace Q_X_2 := keep_cell_chg c Q_X_2 M_X_X.out
  replace Q_R_0 := keep_cell_chg c Q_R_0 M_R_X.out
  replace Q_R_1 := keep_cell_chg c Q_R_1 M_R_X.out
  replace F_XE := Lib.hid (Free.chg F_XE.out W_XE.out c D_XE__X.out)
  replace F_RA := Lib.hid (Free.chg F_RA.out W_RA.out c (all_app (T := fun b => b ∉ Xf0 ++ Xf1 ++ Xf2) D_R0_X.out D_R1_X.out))
  replace F_RJ := Lib.hid (Free.chg F_RJ.out W_RJ.out c D_R2_X.out)
  replace W_XE := Lib.hid (fun q hq => Nat.lt_of_lt_of_le (W_XE.out q hq) c.size)
  replace W_RA := Lib.hid (fun q hq => Nat.lt_of_lt_of_le (W_RA.out q hq) c.size)
  replace W_RJ := Lib.hid (fun q hq => Nat.lt_of_lt_of_le (W_RJ.out q hq) c.size)
  replace B := Lib.hid (B.out.trans (Chg.under c B.out.size LO_X.out))
  clear c
  clear X0 X1 X2
  have hc1 := cnt_evs_in SM1.out
  obtain ⟨c1, hcc1⟩ : ∃ c, c = cnt_evs x1 := ⟨_, rfl⟩
  rw [<- hcc1] at hc1
  have lc1 := hc1.1
  have uc1 := hc1.2
  have HC1 := Lib.hid hcc1
  clear hc1 hcc1
  go_wp2_with fail
  refine (mark_evs _ x1 XEf t0 (by omega) (by omega) SM1.out _ XE_.out F_XE.out).mono ?_
  rw [<- HC1.out]
  rintro e w15 ⟨rfl, -, c, -⟩
  replace A0_0 := Lib.hid (SlR.chg mrR_fits A0_0.out c D_A0_0_XE.out)
  replace A0_1 := Lib.hid (SlR.chg intR_fits A0_1.out c D_A0_1_XE.out)
  replace A0_2 := Lib.hid (SlR.chg (slR_fits reqR_fits) A0_2.out c D_A0_2_XE.out)
  replace A1 := Lib.hid (SlR.chg evR_fits A1.out c D_A1_XE.out)
  replace T0 := Lib.hid (SlR.chg intR_fits T0.out c D_T0_XE.out)
  replace T1 := Lib.hid (SlR.chg intR_fits T1.out c D_T1_XE.out)
  replace T2 := Lib.hid (SlR.chg jobR_fits T2.out c D_T2_XE.out)
  replace R0 := Lib.hid (SlR.chg intR_fits R0.out c D_R0_XE.out)
  replace R1 := Lib.hid (SlR.chg intR_fits R1.out c D_R1_XE.out)
  replace R2 := Lib.hid (SlR.chg jobR_fits R2.out c D_R2_XE.out)
  replace Q_P_0 := keep_cell_chg c Q_P_0 M_P_XE.out
  replace Q_P_1 := keep_cell_chg c Q_P_1 M_P_XE.out
  replace Q_P_2 := keep_cell_chg c Q_P_2 M_P_XE.out
  replace Q_T_0 := keep_cell_chg c Q_T_0 M_T_XE.out
  replace Q_T_1 := keep_cell_chg c Q_T_1 M_T_XE.out
  replace Q_X_0 := keep_cell_chg c Q_X_0 M_X_XE.out
  replace Q_X_1 := keep_cell_chg c Q_X_1 M_X_XE.out
  replace Q_X_2 := keep_cell_chg c Q_X_2 M_X_XE.out
  replace Q_R_0 := keep_cell_chg c Q_R_0 M_R_XE.out
  replace Q_R_1 := keep_cell_chg c Q_R_1 M_R_XE.out
  replace F_RA := Lib.hid (Free.chg F_RA.out W_RA.out c (all_app (T := fun b => b ∉ XEf) D_R0_XE.out D_R1_XE.out))
  replace F_RJ := Lib.hid (Free.chg F_RJ.out W_RJ.out c D_R2_XE.out)
  replace W_RA := Lib.hid (fun q hq => Nat.lt_of_lt_of_le (W_RA.out q hq) c.size)
  replace W_RJ := Lib.hid (fun q hq => Nat.lt_of_lt_of_le (W_RJ.out q hq) c.size)
  replace B := Lib.hid (B.out.trans (Chg.under c B.out.size LO_XE.out))
  clear c
  clear XE_
  have kp1 : 0 <= t0 + c1 := by omega
  go_wp2_with fail
  refine (eq_Atm (atmOrder x0 x1).1 (atmOrder x0 x1).1 _ _ _ _ Rf0 Rf1 Tf0 Tf1 _ R0.out R1.out T0.out T1.out).mono ?_
  rw [decide_eq_true rfl]
  rintro e w16 ⟨rfl, b⟩
  replace A0_0 := Lib.hid (SlR.below mrR_fits A0_0.out b)
  replace A0_1 := Lib.hid (SlR.below intR_fits A0_1.out b)
  replace A0_2 := Lib.hid (SlR.below (slR_fits reqR_fits) A0_2.out b)
  replace A1 := Lib.hid (SlR.below evR_fits A1.out b)
  replace T0 := Lib.hid (SlR.below intR_fits T0.out b)
  replace T1 := Lib.hid (SlR.below intR_fits T1.out b)
  replace T2 := Lib.hid (SlR.below jobR_fits T2.out b)
  replace R0 := Lib.hid (SlR.below intR_fits R0.out b)
  replace R1 := Lib.hid (SlR.below intR_fits R1.out b)
  replace R2 := Lib.hid (SlR.below jobR_fits R2.out b)
  replace Q_P_0 := keep_cell b Q_P_0
  replace Q_P_1 := keep_cell b Q_P_1
  replace Q_P_2 := keep_cell b Q_P_2
  replace Q_T_0 := keep_cell b Q_T_0
  replace Q_T_1 := keep_cell b Q_T_1
  replace Q_X_0 := keep_cell b Q_X_0
  replace Q_X_1 := keep_cell b Q_X_1
  replace Q_X_2 := keep_cell b Q_X_2
  replace Q_R_0 := keep_cell b Q_R_0
  replace Q_R_1 := keep_cell b Q_R_1
  replace F_RA := Lib.hid (Free.below F_RA.out W_RA.out b)
  replace W_RA := Lib.hid (fun q hq => Nat.lt_of_lt_of_le (W_RA.out q hq) b.size)
  replace F_RJ := Lib.hid (Free.below F_RJ.out W_RJ.out b)
  replace W_RJ := Lib.hid (fun q hq => Nat.lt_of_lt_of_le (W_RJ.out q hq) b.size)
  replace B := Lib.hid (B.out.trans (b.mono B.out.size))
  clear b
  go_wp2_with fail
  refine (eq_jobs _ _ (atmOrder x0 x1).2 (atmOrder x0 x1).2 Rf2 Tf2 _ R2.out T2.out).mono ?_
  rw [decide_eq_true rfl]
  rintro e w17 ⟨rfl, b⟩
  replace A0_0 := Lib.hid (SlR.below mrR_fits A0_0.out b)
  replace A0_1 := Lib.hid (SlR.below intR_fits A0_1.out b)
  replace A0_2 := Lib.hid (SlR.below (slR_fits reqR_fits) A0_2.out b)
  replace A1 := Lib.hid (SlR.below evR_fits A1.out b)
  replace T0 := Lib.hid (SlR.below intR_fits T0.out b)
  replace T1 := Lib.hid (SlR.below intR_fits T1.out b)
  replace T2 := Lib.hid (SlR.below jobR_fits T2.out b)
  replace R0 := Lib.hid (SlR.below intR_fits R0.out b)
  replace R1 := Lib.hid (SlR.below intR_fits R1.out b)
  replace R2 := Lib.hid (SlR.below jobR_fits R2.out b)
  replace Q_P_0 := keep_cell b Q_P_0
  replace Q_P_1 := keep_cell b Q_P_1
  replace Q_P_2 := keep_cell b Q_P_2
  replace Q_T_0 := keep_cell b Q_T_0
  replace Q_T_1 := keep_cell b Q_T_1
  replace Q_X_0 := keep_cell b Q_X_0
  replace Q_X_1 := keep_cell b Q_X_1
  replace Q_X_2 := keep_cell b Q_X_2
  replace Q_R_0 := keep_cell b Q_R_0
  replace Q_R_1 := keep_cell b Q_R_1
  replace F_RA := Lib.hid (Free.below F_RA.out W_RA.out b)
  replace W_RA := Lib.hid (fun q hq => Nat.lt_of_lt_of_le (W_RA.out q hq) b.size)
  replace F_RJ := Lib.hid (Free.below F_RJ.out W_RJ.out b)
  replace W_RJ := Lib.hid (fun q hq => Nat.lt_of_lt_of_le (W_RJ.out q hq) b.size)
  replace B := Lib.hid (B.out.trans (b.mono B.out.size))
  clear b
  go_wp2_with fail
  have hrA := cnt_Atm_in SRA.out
  obtain ⟨rA, hrrA⟩ : ∃ c, c = cnt_Atm (atmOrder x0 x1).1 := ⟨_, rfl⟩
  rw [<- hrrA] at hrA
  have lrA := hrA.1
  have urA := hrA.2
  have HRA := Lib.hid hrrA
  clear hrA hrrA
  have hrJ := cnt_jobs_in SRJ.out
  obtain ⟨rJ, hrrJ⟩ : ∃ c, c = cnt_jobs (atmOrder x0 x1).2 := ⟨_, rfl⟩
  rw [<- hrrJ] at hrJ
  have lrJ := hrJ.1
  have urJ := hrJ.2
  have HRJ := Lib.hid hrrJ
  clear hrJ hrrJ
  refine (mark_Atm (atmOrder x0 x1).1 _ _ Rf0 Rf1 1 (by omega) (by omega) SRA.out _ R0.out R1.out F_RA.out ON_RA.out).mono ?_
  rw [<- HRA.out]
  rintro e w18 ⟨rfl, mg0, mg1, c, fr⟩
  replace A0_0 := Lib.hid (SlR.chg mrR_fits A0_0.out c D_A0_0_RA.out)
  replace A0_1 := Lib.hid (SlR.chg intR_fits A0_1.out c D_A0_1_RA.out)
  replace A0_2 := Lib.hid (SlR.chg (slR_fits reqR_fits) A0_2.out c D_A0_2_RA.out)
  replace A1 := Lib.hid (SlR.chg evR_fits A1.out c D_A1_RA.out)
  replace T0 := Lib.hid (SlR.chg intR_fits T0.out c D_T0_RA.out)
  replace T1 := Lib.hid (SlR.chg intR_fits T1.out c D_T1_RA.out)
  replace T2 := Lib.hid (SlR.chg jobR_fits T2.out c D_T2_RA.out)
  replace R2 := Lib.hid (SlR.chg jobR_fits R2.out c D_R2_RA.out)
  replace Q_P_0 := keep_cell_chg c Q_P_0 M_P_RA.out
  replace Q_P_1 := keep_cell_chg c Q_P_1 M_P_RA.out
  replace Q_P_2 := keep_cell_chg c Q_P_2 M_P_RA.out
  replace Q_T_0 := keep_cell_chg c Q_T_0 M_T_RA.out
  replace Q_T_1 := keep_cell_chg c Q_T_1 M_T_RA.out
  replace Q_X_0 := keep_cell_chg c Q_X_0 M_X_RA.out
  replace Q_X_1 := keep_cell_chg c Q_X_1 M_X_RA.out
  replace Q_X_2 := keep_cell_chg c Q_X_2 M_X_RA.out
  replace Q_R_0 := keep_cell_chg c Q_R_0 M_R_RA.out
  replace Q_R_1 := keep_cell_chg c Q_R_1 M_R_RA.out
  replace F_RJ := Lib.hid (Free.chg F_RJ.out W_RJ.out c D_R2_RA.out)
  replace W_RJ := Lib.hid (fun q hq => Nat.lt_of_lt_of_le (W_RJ.out q hq) c.size)
  replace B := Lib.hid (B.out.trans (Chg.under c B.out.size LO_RA.out))
  replace R0 := Lib.hid mg0
  replace R1 := Lib.hid mg1
  clear c fr mg0 mg1
  have kpA : 0 <= 1 + rA := by omega
  go_wp2_with fail
  refine (mark_jobs _ (atmOrder x0 x1).2 Rf2 (1 + rA) (by omega) (by omega) SRJ.out _ R2.out F_RJ.out ON_RJ.out).mono ?_
  rw [<- HRJ.out]
  rintro e w19 ⟨rfl, mg2, c, fr⟩
  replace A0_0 := Lib.hid (SlR.chg mrR_fits A0_0.out c D_A0_0_RJ.out)
  replace A0_1 := Lib.hid (SlR.chg intR_fits A0_1.out c D_A0_1_RJ.out)
  replace A0_2 := Lib.hid (SlR.chg (slR_fits reqR_fits) A0_2.out c D_A0_2_RJ.out)
  replace A1 := Lib.hid (SlR.chg evR_fits A1.out c D_A1_RJ.out)
  replace T0 := Lib.hid (SlR.chg intR_fits T0.out c D_T0_RJ.out)
  replace T1 := Lib.hid (SlR.chg intR_fits T1.out c D_T1_RJ.out)
  replace T2 := Lib.hid (SlR.chg jobR_fits T2.out c D_T2_RJ.out)
  replace R0 := Lib.hid (SlR.chg intR_fits R0.out c D_R0_RJ.out)
  replace R1 := Lib.hid (SlR.chg intR_fits R1.out c D_R1_RJ.out)
  replace Q_P_0 := keep_cell_chg c Q_P_0 M_P_RJ.out
  replace Q_P_1 := keep_cell_chg c Q_P_1 M_P_RJ.out
  replace Q_P_2 := keep_cell_chg c Q_P_2 M_P_RJ.out
  replace Q_T_0 := keep_cell_chg c Q_T_0 M_T_RJ.out
  replace Q_T_1 := keep_cell_chg c Q_T_1 M_T_RJ.out
  replace Q_X_0 := keep_cell_chg c Q_X_0 M_X_RJ.out
  replace Q_X_1 := keep_cell_chg c Q_X_1 M_X_RJ.out
  replace Q_X_2 := keep_cell_chg c Q_X_2 M_X_RJ.out
  replace Q_R_0 := keep_cell_chg c Q_R_0 M_R_RJ.out
  replace Q_R_1 := keep_cell_chg c Q_R_1 M_R_RJ.out
  replace B := Lib.hid (B.out.trans (Chg.under c B.out.size LO_RJ.out))
  replace R2 := Lib.hid mg2
  clear c fr mg2
  have kpJ : 0 <= 1 + rA + rJ := by omega
  go_wp2_with fail
  refine (held_Atm (atmOrder x0 x1).1 _ _ Rf0 Rf1 1 (by omega) (by omega) SRA.out _ R0.out R1.out).mono ?_
  rw [<- HRA.out]
  rintro e w20 ⟨rfl, b⟩
  replace A0_0 := Lib.hid (SlR.below mrR_fits A0_0.out b)
  replace A0_1 := Lib.hid (SlR.below intR_fits A0_1.out b)
  replace A0_2 := Lib.hid (SlR.below (slR_fits reqR_fits) A0_2.out b)
  replace A1 := Lib.hid (SlR.below evR_fits A1.out b)
  replace T0 := Lib.hid (SlR.below intR_fits T0.out b)
  replace T1 := Lib.hid (SlR.below intR_fits T1.out b)
  replace T2 := Lib.hid (SlR.below jobR_fits T2.out b)
  replace R0 := Lib.hid (SlR.below intR_fits R0.out b)
  replace R1 := Lib.hid (SlR.below intR_fits R1.out b)
  replace R2 := Lib.hid (SlR.below jobR_fits R2.out b)
  replace Q_P_0 := keep_cell b Q_P_0
  replace Q_P_1 := keep_cell b Q_P_1
  replace Q_P_2 := keep_cell b Q_P_2
  replace Q_T_0 := keep_cell b Q_T_0
  replace Q_T_1 := keep_cell b Q_T_1
  replace Q_X_0 := keep_cell b Q_X_0
  replace Q_X_1 := keep_cell b Q_X_1
  replace Q_X_2 := keep_cell b Q_X_2
  replace Q_R_0 := keep_cell b Q_R_0
  replace Q_R_1 := keep_cell b Q_R_1
  replace B := Lib.hid (B.out.trans (b.mono B.out.size))
  clear b
  go_wp2_with fail
  refine (held_jobs _ (atmOrder x0 x1).2 Rf2 (1 + rA) (by omega) (by omega) SRJ.out _ R2.out).mono ?_
  rw [<- HRJ.out]
  rintro e w21 ⟨rfl, b⟩
  replace A0_0 := Lib.hid (SlR.below mrR_fits A0_0.out b)
  replace A0_1 := Lib.hid (SlR.below intR_fits A0_1.out b)
  replace A0_2 := Lib.hid (SlR.below (slR_fits reqR_fits) A0_2.out b)
  replace A1 := Lib.hid (SlR.below evR_fits A1.out b)
  replace T0 := Lib.hid (SlR.below intR_fits T0.out b)
  replace T1 := Lib.hid (SlR.below intR_fits T1.out b)
  replace T2 := Lib.hid (SlR.below jobR_fits T2.out b)
  replace R0 := Lib.hid (SlR.below intR_fits R0.out b)
  replace R1 := Lib.hid (SlR.below intR_fits R1.out b)
  replace R2 := Lib.hid (SlR.below jobR_fits R2.out b)
  replace Q_P_0 := keep_cell b Q_P_0
  replace Q_P_1 := keep_cell b Q_P_1
  replace Q_P_2 := keep_cell b Q_P_2
  replace Q_T_0 := keep_cell b Q_T_0
  replace Q_T_1 := keep_cell b Q_T_1
  replace Q_X_0 := keep_cell b Q_X_0
  replace Q_X_1 := keep_cell b Q_X_1
  replace Q_X_2 := keep_cell b Q_X_2
  replace Q_R_0 := keep_cell b Q_R_0
  replace Q_R_1 := keep_cell b Q_R_1
  replace B := Lib.hid (B.out.trans (b.mono B.out.size))
  clear b
  go_wp2_with fail
  refine (to_Bus x0 _ _ _ fp0_0 fp0_1 fp0_2 SM0.out _ A0_0.out A0_1.out A0_2.out).mono ?_
  rintro e w22 ⟨Yv0, Yf0, Yv1, Yf1, Yv2, Yf2, rfl, Yg0, Yg1, Yg2, n, b⟩
  obtain ⟨Ya0, Yl0, Yk0, rfl⟩ := Yg0.form
  obtain ⟨Ya1, Yl1, Yk1, rfl⟩ := Yg1.form
  obtain ⟨Ya2, Yl2, Yk2, rfl⟩ := Yg2.form
  replace A0_0 := Lib.hid (SlR.below mrR_fits A0_0.out b)
  replace A0_1 := Lib.hid (SlR.below intR_fits A0_1.out b)
  replace A0_2 := Lib.hid (SlR.below (slR_fits reqR_fits) A0_2.out b)
  replace A1 := Lib.hid (SlR.below evR_fits A1.out b)
  replace T0 := Lib.hid (SlR.below intR_fits T0.out b)
  replace T1 := Lib.hid (SlR.below intR_fits T1.out b)
  replace T2 := Lib.hid (SlR.below jobR_fits T2.out b)
  replace R0 := Lib.hid (SlR.below intR_fits R0.out b)
  replace R1 := Lib.hid (SlR.below intR_fits R1.out b)
  replace R2 := Lib.hid (SlR.below jobR_fits R2.out b)
  replace Q_P_0 := keep_cell b Q_P_0
  replace Q_P_1 := keep_cell b Q_P_1
  replace Q_P_2 := keep_cell b Q_P_2
  replace Q_T_0 := keep_cell b Q_T_0
  replace Q_T_1 := keep_cell b Q_T_1
  replace Q_X_0 := keep_cell b Q_X_0
  replace Q_X_1 := keep_cell b Q_X_1
  replace Q_X_2 := keep_cell b Q_X_2
  replace Q_R_0 := keep_cell b Q_R_0
  replace Q_R_1 := keep_cell b Q_R_1
  replace B := Lib.hid (B.out.trans (b.mono B.out.size))
  have Y0 := Lib.hid Yg0
  have Y1 := Lib.hid Yg1
  have Y2 := Lib.hid Yg2
  clear n b Yg0 Yg1 Yg2
  go_wp2_with fail
  refine (to_evs _ x1 fp1 SM1.out _ A1.out).mono ?_
  rintro e w23 ⟨YEv, YEf, rfl, YEg, n, b⟩
  obtain ⟨YEa, YEl, YEk, rfl⟩ := YEg.form
  replace A0_0 := Lib.hid (SlR.below mrR_fits A0_0.out b)
  replace A0_1 := Lib.hid (SlR.below intR_fits A0_1.out b)
  replace A0_2 := Lib.hid (SlR.below (slR_fits reqR_fits) A0_2.out b)
  replace A1 := Lib.hid (SlR.below evR_fits A1.out b)
  replace T0 := Lib.hid (SlR.below intR_fits T0.out b)
  replace T1 := Lib.hid (SlR.below intR_fits T1.out b)
  replace T2 := Lib.hid (SlR.below jobR_fits T2.out b)
  replace R0 := Lib.hid (SlR.below intR_fits R0.out b)
  replace R1 := Lib.hid (SlR.below intR_fits R1.out b)
  replace R2 := Lib.hid (SlR.below jobR_fits R2.out b)
  replace Y0 := Lib.hid (SlR.below mrR_fits Y0.out b)
  replace Y1 := Lib.hid (SlR.below intR_fits Y1.out b)
  replace Y2 := Lib.hid (SlR.below (slR_fits reqR_fits) Y2.out b)
  replace Q_P_0 := keep_cell b Q_P_0
  replace Q_P_1 := keep_cell b Q_P_1
  replace Q_P_2 := keep_cell b Q_P_2
  replace Q_T_0 := keep_cell b Q_T_0
  replace Q_T_1 := keep_cell b Q_T_1
  replace Q_X_0 := keep_cell b Q_X_0
  replace Q_X_1 := keep_cell b Q_X_1
  replace Q_X_2 := keep_cell b Q_X_2
  replace Q_R_0 := keep_cell b Q_R_0
  replace Q_R_1 := keep_cell b Q_R_1
  replace B := Lib.hid (B.out.trans (b.mono B.out.size))
  have YE_ := Lib.hid YEg
  clear n b YEg
  go_wp2_with fail
  refine (iAtmOrder_any x0 x1 _ _ _ _ Yf0 Yf1 Yf2 YEf _ Y0.out Y1.out Y2.out YE_.out).mono ?_
  rintro e w24 ⟨Hv0, Hv1, Hv2, Hf0, Hf1, Hf2, rfl, Hg0, Hg1, Hg2, n, b⟩
  obtain ⟨Ha0, Hl0, Hk0, rfl⟩ := Hg0.form
  obtain ⟨Ha1, Hl1, Hk1, rfl⟩ := Hg1.form
  obtain ⟨Ha2, Hl2, Hk2, rfl⟩ := Hg2.form
  replace A0_0 := Lib.hid (SlR.below mrR_fits A0_0.out b)
  replace A0_1 := Lib.hid (SlR.below intR_fits A0_1.out b)
  replace A0_2 := Lib.hid (SlR.below (slR_fits reqR_fits) A0_2.out b)
  replace A1 := Lib.hid (SlR.below evR_fits A1.out b)
  replace T0 := Lib.hid (SlR.below intR_fits T0.out b)
  replace T1 := Lib.hid (SlR.below intR_fits T1.out b)
  replace T2 := Lib.hid (SlR.below jobR_fits T2.out b)
  replace R0 := Lib.hid (SlR.below intR_fits R0.out b)
  replace R1 := Lib.hid (SlR.below intR_fits R1.out b)
  replace R2 := Lib.hid (SlR.below jobR_fits R2.out b)
  replace Y0 := Lib.hid (SlR.below mrR_fits Y0.out b)
  replace Y1 := Lib.hid (SlR.below intR_fits Y1.out b)
  replace Y2 := Lib.hid (SlR.below (slR_fits reqR_fits) Y2.out b)
  replace YE_ := Lib.hid (SlR.below evR_fits YE_.out b)
  replace Q_P_0 := keep_cell b Q_P_0
  replace Q_P_1 := keep_cell b Q_P_1
  replace Q_P_2 := keep_cell b Q_P_2
  replace Q_T_0 := keep_cell b Q_T_0
  replace Q_T_1 := keep_cell b Q_T_1
  replace Q_X_0 := keep_cell b Q_X_0
  replace Q_X_1 := keep_cell b Q_X_1
  replace Q_X_2 := keep_cell b Q_X_2
  replace Q_R_0 := keep_cell b Q_R_0
  replace Q_R_1 := keep_cell b Q_R_1
  replace B := Lib.hid (B.out.trans (b.mono B.out.size))
  have H0 := Lib.hid Hg0
  have H1 := Lib.hid Hg1
  have H2 := Lib.hid Hg2
  clear n b Hg0 Hg1 Hg2
  have ba := below_alloc w24 (.cells #[.slice Ha0 Hl0 Hk0, .slice Ha1 Hl1 Hk1] 33)
  replace A0_0 := Lib.hid (SlR.below mrR_fits A0_0.out ba)
  replace A0_1 := Lib.hid (SlR.below intR_fits A0_1.out ba)
  replace A0_2 := Lib.hid (SlR.below (slR_fits reqR_fits) A0_2.out ba)
  replace A1 := Lib.hid (SlR.below evR_fits A1.out ba)
  replace T0 := Lib.hid (SlR.below intR_fits T0.out ba)
  replace T1 := Lib.hid (SlR.below intR_fits T1.out ba)
  replace T2 := Lib.hid (SlR.below jobR_fits T2.out ba)
  replace R0 := Lib.hid (SlR.below intR_fits R0.out ba)
  replace R1 := Lib.hid (SlR.below intR_fits R1.out ba)
  replace R2 := Lib.hid (SlR.below jobR_fits R2.out ba)
  replace Y0 := Lib.hid (SlR.below mrR_fits Y0.out ba)
  replace Y1 := Lib.hid (SlR.below intR_fits Y1.out ba)
  replace Y2 := Lib.hid (SlR.below (slR_fits reqR_fits) Y2.out ba)
  replace YE_ := Lib.hid (SlR.below evR_fits YE_.out ba)
  replace H0 := Lib.hid (SlR.below intR_fits H0.out ba)
  replace H1 := Lib.hid (SlR.below intR_fits H1.out ba)
  replace H2 := Lib.hid (SlR.below jobR_fits H2.out ba)
  replace Q_P_0 := keep_cell ba Q_P_0
  replace Q_P_1 := keep_cell ba Q_P_1
  replace Q_P_2 := keep_cell ba Q_P_2
  replace Q_T_0 := keep_cell ba Q_T_0
  replace Q_T_1 := keep_cell ba Q_T_1
  replace Q_X_0 := keep_cell ba Q_X_0
  replace Q_X_1 := keep_cell ba Q_X_1
  replace Q_X_2 := keep_cell ba Q_X_2
  replace Q_R_0 := keep_cell ba Q_R_0
  replace Q_R_1 := keep_cell ba Q_R_1
  replace B := Lib.hid (B.out.trans (ba.mono B.out.size))
  have Q_H_0 := alloc1_new w24 #[.slice Ha0 Hl0 Hk0, .slice Ha1 Hl1 Hk1] 33 0 rfl
  have Q_H_1 := alloc1_new w24 #[.slice Ha0 Hl0 Hk0, .slice Ha1 Hl1 Hk1] 33 1 rfl
  clear ba
  clear Y0 Y1 Y2 YE_
  go_wp2_with fail
  refine (eq_Atm (atmOrder x0 x1).1 (atmOrder x0 x1).1 _ _ _ _ Hf0 Hf1 Tf0 Tf1 _ H0.out H1.out T0.out T1.out).mono ?_
  rw [decide_eq_true rfl]
  rintro e w25 ⟨rfl, b⟩
  replace A0_0 := Lib.hid (SlR.below mrR_fits A0_0.out b)
  replace A0_1 := Lib.hid (SlR.below intR_fits A0_1.out b)
  replace A0_2 := Lib.hid (SlR.below (slR_fits reqR_fits) A0_2.out b)
  replace A1 := Lib.hid (SlR.below evR_fits A1.out b)
  replace T0 := Lib.hid (SlR.below intR_fits T0.out b)
  replace T1 := Lib.hid (SlR.below intR_fits T1.out b)
  replace T2 := Lib.hid (SlR.below jobR_fits T2.out b)
  replace R0 := Lib.hid (SlR.below intR_fits R0.out b)
  replace R1 := Lib.hid (SlR.below intR_fits R1.out b)
  replace R2 := Lib.hid (SlR.below jobR_fits R2.out b)
  replace H0 := Lib.hid (SlR.below intR_fits H0.out b)
  replace H1 := Lib.hid (SlR.below intR_fits H1.out b)
  replace H2 := Lib.hid (SlR.below jobR_fits H2.out b)
  replace Q_P_0 := keep_cell b Q_P_0
  replace Q_P_1 := keep_cell b Q_P_1
  replace Q_P_2 := keep_cell b Q_P_2
  replace Q_T_0 := keep_cell b Q_T_0
  replace Q_T_1 := keep_cell b Q_T_1
  replace Q_X_0 := keep_cell b Q_X_0
  replace Q_X_1 := keep_cell b Q_X_1
  replace Q_X_2 := keep_cell b Q_X_2
  replace Q_R_0 := keep_cell b Q_R_0
  replace Q_R_1 := keep_cell b Q_R_1
  replace Q_H_0 := keep_cell b Q_H_0
  replace Q_H_1 := keep_cell b Q_H_1
  replace B := Lib.hid (B.out.trans (b.mono B.out.size))
  clear b
  go_wp2_with fail
  refine (eq_jobs _ _ (atmOrder x0 x1).2 (atmOrder x0 x1).2 Hf2 Tf2 _ H2.out T2.out).mono ?_
  rw [decide_eq_true rfl]
  rintro e w26 ⟨rfl, b⟩
  replace A0_0 := Lib.hid (SlR.below mrR_fits A0_0.out b)
  replace A0_1 := Lib.hid (SlR.below intR_fits A0_1.out b)
  replace A0_2 := Lib.hid (SlR.below (slR_fits reqR_fits) A0_2.out b)
  replace A1 := Lib.hid (SlR.below evR_fits A1.out b)
  replace T0 := Lib.hid (SlR.below intR_fits T0.out b)
  replace T1 := Lib.hid (SlR.below intR_fits T1.out b)
  replace T2 := Lib.hid (SlR.below jobR_fits T2.out b)
  replace R0 := Lib.hid (SlR.below intR_fits R0.out b)
  replace R1 := Lib.hid (SlR.below intR_fits R1.out b)
  replace R2 := Lib.hid (SlR.below jobR_fits R2.out b)
  replace H0 := Lib.hid (SlR.below intR_fits H0.out b)
  replace H1 := Lib.hid (SlR.below intR_fits H1.out b)
  replace H2 := Lib.hid (SlR.below jobR_fits H2.out b)
  replace Q_P_0 := keep_cell b Q_P_0
  replace Q_P_1 := keep_cell b Q_P_1
  replace Q_P_2 := keep_cell b Q_P_2
  replace Q_T_0 := keep_cell b Q_T_0
  replace Q_T_1 := keep_cell b Q_T_1
  replace Q_X_0 := keep_cell b Q_X_0
  replace Q_X_1 := keep_cell b Q_X_1
  replace Q_X_2 := keep_cell b Q_X_2
  replace Q_R_0 := keep_cell b Q_R_0
  replace Q_R_1 := keep_cell b Q_R_1
  replace Q_H_0 := keep_cell b Q_H_0
  replace Q_H_1 := keep_cell b Q_H_1
  replace B := Lib.hid (B.out.trans (b.mono B.out.size))
  clear b
  go_wp2_with fail
  refine (held_Atm (atmOrder x0 x1).1 _ _ Rf0 Rf1 1 (by omega) (by omega) SRA.out _ R0.out R1.out).mono ?_
  rw [<- HRA.out]
  rintro e w27 ⟨rfl, b⟩
  replace A0_0 := Lib.hid (SlR.below mrR_fits A0_0.out b)
  replace A0_1 := Lib.hid (SlR.below intR_fits A0_1.out b)
  replace A0_2 := Lib.hid (SlR.below (slR_fits reqR_fits) A0_2.out b)
  replace A1 := Lib.hid (SlR.below evR_fits A1.out b)
  replace T0 := Lib.hid (SlR.below intR_fits T0.out b)
  replace T1 := Lib.hid (SlR.below intR_fits T1.out b)
  replace T2 := Lib.hid (SlR.below jobR_fits T2.out b)
  replace R0 := Lib.hid (SlR.below intR_fits R0.out b)
  replace R1 := Lib.hid (SlR.below intR_fits R1.out b)
  replace R2 := Lib.hid (SlR.below jobR_fits R2.out b)
  replace H0 := Lib.hid (SlR.below intR_fits H0.out b)
  replace H1 := Lib.hid (SlR.below intR_fits H1.out b)
  replace H2 := Lib.hid (SlR.below jobR_fits H2.out b)
  replace Q_P_0 := keep_cell b Q_P_0
  replace Q_P_1 := keep_cell b Q_P_1
  replace Q_P_2 := keep_cell b Q_P_2
  replace Q_T_0 := keep_cell b Q_T_0
  replace Q_T_1 := keep_cell b Q_T_1
  replace Q_X_0 := keep_cell b Q_X_0
  replace Q_X_1 := keep_cell b Q_X_1
  replace Q_X_2 := keep_cell b Q_X_2
  replace Q_R_0 := keep_cell b Q_R_0
  replace Q_R_1 := keep_cell b Q_R_1
  replace Q_H_0 := keep_cell b Q_H_0
  replace Q_H_1 := keep_cell b Q_H_1
  replace B := Lib.hid (B.out.trans (b.mono B.out.size))
  clear b
  go_wp2_with fail
  refine (held_jobs _ (atmOrder x0 x1).2 Rf2 (1 + rA) (by omega) (by omega) SRJ.out _ R2.out).mono ?_
  rw [<- HRJ.out]
  rintro e w28 ⟨rfl, b⟩
  replace A0_0 := Lib.hid (SlR.below mrR_fits A0_0.out b)
  replace A0_1 := Lib.hid (SlR.below intR_fits A0_1.out b)
  replace A0_2 := Lib.hid (SlR.below (slR_fits reqR_fits) A0_2.out b)
  replace A1 := Lib.hid (SlR.below evR_fits A1.out b)
  replace T0 := Lib.hid (SlR.below intR_fits T0.out b)
  replace T1 := Lib.hid (SlR.below intR_fits T1.out b)
  replace T2 := Lib.hid (SlR.below jobR_fits T2.out b)
  replace R0 := Lib.hid (SlR.below intR_fits R0.out b)
  replace R1 := Lib.hid (SlR.below intR_fits R1.out b)
  replace R2 := Lib.hid (SlR.below jobR_fits R2.out b)
  replace H0 := Lib.hid (SlR.below intR_fits H0.out b)
  replace H1 := Lib.hid (SlR.below intR_fits H1.out b)
  replace H2 := Lib.hid (SlR.below jobR_fits H2.out b)
  replace Q_P_0 := keep_cell b Q_P_0
  replace Q_P_1 := keep_cell b Q_P_1
  replace Q_P_2 := keep_cell b Q_P_2
  replace Q_T_0 := keep_cell b Q_T_0
  replace Q_T_1 := keep_cell b Q_T_1
  replace Q_X_0 := keep_cell b Q_X_0
  replace Q_X_1 := keep_cell b Q_X_1
  replace Q_X_2 := keep_cell b Q_X_2
  replace Q_R_0 := keep_cell b Q_R_0
  replace Q_R_1 := keep_cell b Q_R_1
  replace Q_H_0 := keep_cell b Q_H_0
  replace Q_H_1 := keep_cell b Q_H_1
  replace B := Lib.hid (B.out.trans (b.mono B.out.size))
  clear b
  go_wp2
  go_ret
  exact ⟨rfl, B.out⟩
set_option maxRecDepth 100000 in
theorem lifted (os : Os) (started : os.Started) (H : Type) (enc : TypeId × Value -> H) :
 ReturnsInHanded {} Tryz.checked os 3 .any (Rows.fnExactAtmOrderSpec.pre6 enc Tryz.prog Tryz.f3 Rows.fnExactAtmOrderRow.domain false) (Rows.fnExactAtmOrderSpec.post enc Tryz.prog Tryz.f3 false true false false) := by
 refine returnsInHanded_of_change (C := Tryz.checked) own started (by kernel_rfl) Tryz.func3
  (ChangeSpec.witness6 (enc := enc) (C := Tryz.checked) false ⟨#[], #[.agg #[.slice none 0 0, .slice none 0 0, .slice none 0 0], .slice none 0 0], []⟩ 8 (by kernel_rfl) (by kernel_rfl) (by kernel_rfl) (by kernel_rfl)) ?_
 intro W base args ds gs before hval0 hW hcnd _
 have hval : ∀ (j : Nat) t v, Tryz.f3.params[j]? = some t -> args[j]? = some v -> Value.okWide Tryz.prog W .any base t v := hval0
 have hW' := hW
 obtain ⟨p, q, hA0, hV, rfl, hfz, hnd⟩ := hW
 have hA : DataW.TrodAll enc Tryz.prog W 0 (fun _ => true) true Tryz.f3.params.toList args.toList ds p := hA0
 rw [Tryz.params3] at hA hval
 obtain ⟨v0, vs0, d0, ds0, p0, q0, hargs, rfl, rfl, h0, r0⟩ := trodAll_cons hA
 obtain ⟨v1, vs1, d1, ds1, p1, q1, rfl, rfl, rfl, h1, r1⟩ := trodAll_cons r0
 obtain ⟨rfl, rfl, rfl⟩ := trodAll_nil r1
 obtain rfl : args = #[v0, v1] := by cases args; simp_all
 obtain ⟨rfl, rfl⟩ := trodVars_none hV
 clear hA0 hval0
 simp only [List.append_nil] at hW'
 have hlt0 : ∀ x ∈ p0, x.block < W.heap.size := fun x hx => by simpa using hW'.lt x (by simp [hx])
 have hk0 := h0
 obtain ⟨cs0, rfl, _⟩ := okWide_struct Tryz.underlying26 (hval 0 26 v0 rfl rfl)
 obtain ⟨fuel0, hf0⟩ := h0
 obtain ⟨x0, fp0, g0⟩ := opens_Bus hf0
 replace g0 : busR W x0 cs0.toList fp0 := g0
 have hlt1 : ∀ x ∈ p1, x.block < W.heap.size := fun x hx => by simpa using hW'.lt x (by simp [hx])
 have hk1 := h1
 obtain ⟨ad1, len1, cap1, rfl⟩ := okWide_slice Tryz.underlying27 (hval 1 27 v1 rfl rfl)
 obtain ⟨fuel1, hf1⟩ := h1
 obtain ⟨x1, fp1, y1, e1, g1⟩ := opens_evs hf1
 obtain rfl : .slice ad1 len1 cap1 = y1 := by simpa [Value.cells] using e1
 refine (walk cs0 x0 fp0 (.slice ad1 len1 cap1) x1 fp1 W g0 g1).mono fun e W' ⟨he, hb⟩ => ?_
 subst he
 exact ⟨_, rfl, _, _, _, [], _, [], hW', (trodAll_cons_mk (shut_bool Tryz.underlying4 _) trodAll_mk0), (trodAll_cons_mk (Below.trod laidOut (by kernel_rfl) (of_decide_eq_true (by kernel_rfl)) hk0 hb hlt0) (trodAll_cons_mk (Below.trod laidOut (by kernel_rfl) (of_decide_eq_true (by kernel_rfl)) hk1 hb hlt1) trodAll_mk0)), rfl, hb.frame _, fun h => by cases h⟩
theorem over : Rows.fnExactAtmOrderRow.holds Tryz.pinned (OpenSpec.ofChange Rows.fnExactAtmOrderSpec) :=
 OpenClaim.holds_of_wide 3 Tryz.f3 rfl rfl rfl rfl rfl rfl rfl ⟨rfl, rfl, rfl, rfl, rfl⟩ rfl rfl rfl rfl rfl (by kernel_rfl) Tryz.func3 (by kernel_rfl)
  (of_decide_eq_true (by kernel_rfl)) (by unfold Func.isWrapper; first | (rw [if_pos (by decide +kernel)]; kernel_rfl) | (rw [if_neg (by decide +kernel)]; exact ⟨rfl, rfl⟩))
  (fun os started H enc _ => lifted os started H enc)
theorem proved : Rows.FnExactAtmOrderSaid :=
 over
#print axioms proved
end Go.Proofs.YtaeiddoccfaheaaGreat.fnExactAtmOrder
