/-
  Proved: the Go function laws.FnExactTrcSame returns true for all arguments, and the arguments read afterwards as before: the program's TrcSame answers as the reference's.
  Conditions: none.
-/
import Derived.Test.YtmmojgopeaelcaaLift
import Derived.Test.YtmmojgopeaelcaaSame5
import Derived.Test.YtmmojgopeaelcaaUniMap
import Derived.Test.YtmmojgopeaelcaaFacts
import Derived.Test.YtmmojgopeaelcaaAt
namespace Go.Proofs.Ytmmojgopeaelcaa.fnExactTrcSame
set_option linter.unusedVariables false
set_option linter.unusedSimpArgs false
open Go.ChangeShapes Go.WideShapes Go.ChangeAt Go.RowKit

def FTo_Bus (x : Bus) : Fact := fun v w => ∃ (v'0 : Value) (v'1 : Value) (v'2 : Value) (fq0 : List Nat) (fq1 : List Nat) (fq2 : List Nat), v = .agg #[v'0, v'1, v'2] ∧ SlR 4 mrR w x.map v'0 fq0 ∧ SlR 1 intR w x.lat v'1 fq1 ∧ SlR 1 (slR 7 reqR) w x.progs v'2 fq2
theorem stTo_Bus (x : Bus) : Stable [] (FTo_Bus x) := fun _ _ _ ⟨v0, v1, v2, p0, p1, p2, e, h0, h1, h2⟩ hc => ⟨v0, v1, v2, p0, p1, p2, e, h0.chg mrR_fits hc (fun _ _ => by simp), h1.chg intR_fits hc (fun _ _ => by simp), h2.chg (slR_fits reqR_fits) hc (fun _ _ => by simp)⟩

set_option maxRecDepth 100000 in
set_option maxHeartbeats 6400000 in
theorem walk (cs0 : Array Value) (x0 : Bus) (fp0 : List Nat) (v1 : Value) (x1 : List Ev) (fp1 : List Nat) (v2 : Value) (x2 : List Ev) (fp2 : List Nat) (w : World) (h0 : busR w x0 cs0.toList fp0) (h1 : SlR 3 evR w x1 v1 fp1) (h2 : SlR 3 evR w x2 v2 fp2) :
    Calls Try.prog 6 #[.agg cs0, v1, v2] w fun e w' => e = .returned (.bool true) ∧ Below w.heap.size w w' := by
  obtain ⟨cs0⟩ := cs0
  obtain ⟨v0_0, v0_1, v0_2, fp0_0, fp0_1, fp0_2, e, _, g0_0, g0_1, g0_2⟩ := h0
  obtain ⟨al0_0, ln0_0, kn0_0, rfl⟩ := g0_0.form
  obtain ⟨al0_1, ln0_1, kn0_1, rfl⟩ := g0_1.form
  obtain ⟨al0_2, ln0_2, kn0_2, rfl⟩ := g0_2.form
  obtain rfl : cs0 = [.slice al0_0 ln0_0 kn0_0, .slice al0_1 ln0_1 kn0_1, .slice al0_2 ln0_2 kn0_2] := e
  obtain ⟨al1, ln1, kn1, rfl⟩ := h1.form
  obtain ⟨al2, ln2, kn2, rfl⟩ := h2.form
  have hb : Below w.heap.size w (w.alloc (.cells #[.slice al0_0 ln0_0 kn0_0, .slice al0_1 ln0_1 kn0_1, .slice al0_2 ln0_2 kn0_2] 26)) := ((Below.refl _ _).alloc (Nat.le_refl _) _)
  have A0_0 := Lib.hid (SlR.below mrR_fits g0_0 hb)
  have A0_1 := Lib.hid (SlR.below intR_fits g0_1 hb)
  have A0_2 := Lib.hid (SlR.below (slR_fits reqR_fits) g0_2 hb)
  clear g0_0 g0_1 g0_2
  have A1 := Lib.hid (SlR.below evR_fits h1 hb)
  clear h1
  have A2 := Lib.hid (SlR.below evR_fits h2 hb)
  clear h2
  have B := Lib.hid hb
  clear hb
  go_enter Try.func6, Try.ntmps6
  go_wp2_with fail
  refine (sz_Bus x0 _ _ _ fp0_0 fp0_1 fp0_2 1048576 (by omega) (by omega) _ A0_0.out A0_1.out A0_2.out).mono ?_
  rintro e w1 ⟨z0, rfl, le0, sm0, b⟩
  replace A0_0 := Lib.hid (SlR.below mrR_fits A0_0.out b)
  replace A0_1 := Lib.hid (SlR.below intR_fits A0_1.out b)
  replace A0_2 := Lib.hid (SlR.below (slR_fits reqR_fits) A0_2.out b)
  replace A1 := Lib.hid (SlR.below evR_fits A1.out b)
  replace A2 := Lib.hid (SlR.below evR_fits A2.out b)
  replace B := Lib.hid (B.out.trans (b.mono B.out.size))
  have P0_0 : w1.cell? ⟨w.heap.size, 0, none⟩ = some (.slice al0_0 ln0_0 kn0_0) := keep_cell b (alloc1_new w _ _ 0 rfl)
  have P0_1 : w1.cell? ⟨w.heap.size, 1, none⟩ = some (.slice al0_1 ln0_1 kn0_1) := keep_cell b (alloc1_new w _ _ 1 rfl)
  have P0_2 : w1.cell? ⟨w.heap.size, 2, none⟩ = some (.slice al0_2 ln0_2 kn0_2) := keep_cell b (alloc1_new w _ _ 2 rfl)
  clear b
  have S0 := Lib.hid sm0
  clear sm0
  cases hz0 : decide (z0 < 0)
  case' true =>
    go_wp2
    go_ret
    exact ⟨rfl, B.out⟩
  have pz0 : 0 ≤ z0 := by have := of_decide_eq_false hz0; omega
  have SM0 := Lib.hid (S0.out pz0)
  clear S0
  go_wp2_with fail
  refine (sz_evs _ x1 fp1 z0 (by omega) (by omega) _ A1.out).mono ?_
  rintro e w2 ⟨z1, rfl, le1, sm1, b⟩
  replace A0_0 := Lib.hid (SlR.below mrR_fits A0_0.out b)
  replace A0_1 := Lib.hid (SlR.below intR_fits A0_1.out b)
  replace A0_2 := Lib.hid (SlR.below (slR_fits reqR_fits) A0_2.out b)
  replace A1 := Lib.hid (SlR.below evR_fits A1.out b)
  replace A2 := Lib.hid (SlR.below evR_fits A2.out b)
  replace P0_0 := keep_cell b P0_0
  replace P0_1 := keep_cell b P0_1
  replace P0_2 := keep_cell b P0_2
  replace B := Lib.hid (B.out.trans (b.mono B.out.size))
  clear b
  have S1 := Lib.hid sm1
  clear sm1
  cases hz1 : decide (z1 < 0)
  case' true =>
    go_wp2
    go_ret
    exact ⟨rfl, B.out⟩
  have pz1 : 0 ≤ z1 := by have := of_decide_eq_false hz1; omega
  have SM1 := Lib.hid (S1.out pz1)
  clear S1
  go_wp2_with fail
  refine (sz_evs _ x2 fp2 z1 (by omega) (by omega) _ A2.out).mono ?_
  rintro e w3 ⟨z2, rfl, le2, sm2, b⟩
  replace A0_0 := Lib.hid (SlR.below mrR_fits A0_0.out b)
  replace A0_1 := Lib.hid (SlR.below intR_fits A0_1.out b)
  replace A0_2 := Lib.hid (SlR.below (slR_fits reqR_fits) A0_2.out b)
  replace A1 := Lib.hid (SlR.below evR_fits A1.out b)
  replace A2 := Lib.hid (SlR.below evR_fits A2.out b)
  replace P0_0 := keep_cell b P0_0
  replace P0_1 := keep_cell b P0_1
  replace P0_2 := keep_cell b P0_2
  replace B := Lib.hid (B.out.trans (b.mono B.out.size))
  clear b
  have S2 := Lib.hid sm2
  clear sm2
  cases hz2 : decide (z2 < 0)
  case' true =>
    go_wp2
    go_ret
    exact ⟨rfl, B.out⟩
  have pz2 : 0 ≤ z2 := by have := of_decide_eq_false hz2; omega
  have SM2 := Lib.hid (S2.out pz2)
  clear S2
  go_wp2_with fail
  refine (to_Bus x0 _ _ _ fp0_0 fp0_1 fp0_2 SM0.out _ A0_0.out A0_1.out A0_2.out).mono ?_
  rintro e w4 ⟨S0v0, S0f0, S0v1, S0f1, S0v2, S0f2, rfl, S0g0, S0g1, S0g2, n, b⟩
  replace A0_0 := Lib.hid (SlR.below mrR_fits A0_0.out b)
  replace A0_1 := Lib.hid (SlR.below intR_fits A0_1.out b)
  replace A0_2 := Lib.hid (SlR.below (slR_fits reqR_fits) A0_2.out b)
  replace A1 := Lib.hid (SlR.below evR_fits A1.out b)
  replace A2 := Lib.hid (SlR.below evR_fits A2.out b)
  replace P0_0 := keep_cell b P0_0
  replace P0_1 := keep_cell b P0_1
  replace P0_2 := keep_cell b P0_2
  replace B := Lib.hid (B.out.trans (b.mono B.out.size))
  obtain ⟨S0a0, S0l0, S0k0, rfl⟩ := S0g0.form
  obtain ⟨S0a1, S0l1, S0k1, rfl⟩ := S0g1.form
  obtain ⟨S0a2, S0l2, S0k2, rfl⟩ := S0g2.form
  have S00 := Lib.hid S0g0
  have S01 := Lib.hid S0g1
  have S02 := Lib.hid S0g2
  clear n b S0g0 S0g1 S0g2
  go_wp2_with fail
  refine (to_evs _ x1 fp1 SM1.out _ A1.out).mono ?_
  rintro e w5 ⟨S1v0, S1f0, rfl, S1g0, n, b⟩
  replace A0_0 := Lib.hid (SlR.below mrR_fits A0_0.out b)
  replace A0_1 := Lib.hid (SlR.below intR_fits A0_1.out b)
  replace A0_2 := Lib.hid (SlR.below (slR_fits reqR_fits) A0_2.out b)
  replace A1 := Lib.hid (SlR.below evR_fits A1.out b)
  replace A2 := Lib.hid (SlR.below evR_fits A2.out b)
  replace P0_0 := keep_cell b P0_0
  replace P0_1 := keep_cell b P0_1
  replace P0_2 := keep_cell b P0_2
  replace S00 := Lib.hid (SlR.below mrR_fits S00.out b)
  replace S01 := Lib.hid (SlR.below intR_fits S01.out b)
  replace S02 := Lib.hid (SlR.below (slR_fits reqR_fits) S02.out b)
  replace B := Lib.hid (B.out.trans (b.mono B.out.size))
  obtain ⟨S1a0, S1l0, S1k0, rfl⟩ := S1g0.form
  have S10 := Lib.hid S1g0
  clear n b S1g0
  go_wp2_with fail
  refine (to_evs _ x2 fp2 SM2.out _ A2.out).mono ?_
  rintro e w6 ⟨S2v0, S2f0, rfl, S2g0, n, b⟩
  replace A0_0 := Lib.hid (SlR.below mrR_fits A0_0.out b)
  replace A0_1 := Lib.hid (SlR.below intR_fits A0_1.out b)
  replace A0_2 := Lib.hid (SlR.below (slR_fits reqR_fits) A0_2.out b)
  replace A1 := Lib.hid (SlR.below evR_fits A1.out b)
  replace A2 := Lib.hid (SlR.below evR_fits A2.out b)
  replace P0_0 := keep_cell b P0_0
  replace P0_1 := keep_cell b P0_1
  replace P0_2 := keep_cell b P0_2
  replace S00 := Lib.hid (SlR.below mrR_fits S00.out b)
  replace S01 := Lib.hid (SlR.below intR_fits S01.out b)
  replace S02 := Lib.hid (SlR.below (slR_fits reqR_fits) S02.out b)
  replace S10 := Lib.hid (SlR.below evR_fits S10.out b)
  replace B := Lib.hid (B.out.trans (b.mono B.out.size))
  obtain ⟨S2a0, S2l0, S2k0, rfl⟩ := S2g0.form
  have S20 := Lib.hid S2g0
  clear n b S2g0
  go_wp2_with fail
  refine (sTrcSame_any x0 _ _ _ S0f0 S0f1 S0f2 _ x1 S1f0 _ x2 S2f0 _ S00.out S01.out S02.out S10.out S20.out).mono ?_
  rintro e w7 ⟨rfl, b⟩
  replace A0_0 := Lib.hid (SlR.below mrR_fits A0_0.out b)
  replace A0_1 := Lib.hid (SlR.below intR_fits A0_1.out b)
  replace A0_2 := Lib.hid (SlR.below (slR_fits reqR_fits) A0_2.out b)
  replace A1 := Lib.hid (SlR.below evR_fits A1.out b)
  replace A2 := Lib.hid (SlR.below evR_fits A2.out b)
  replace P0_0 := keep_cell b P0_0
  replace P0_1 := keep_cell b P0_1
  replace P0_2 := keep_cell b P0_2
  replace S00 := Lib.hid (SlR.below mrR_fits S00.out b)
  replace S01 := Lib.hid (SlR.below intR_fits S01.out b)
  replace S02 := Lib.hid (SlR.below (slR_fits reqR_fits) S02.out b)
  replace S10 := Lib.hid (SlR.below evR_fits S10.out b)
  replace S20 := Lib.hid (SlR.below evR_fits S20.out b)
  replace B := Lib.hid (B.out.trans (b.mono B.out.size))
  clear b
  clear S00 S01 S02 S10 S20
  go_wp2_with fail
  refine (to_Bus x0 _ _ _ fp0_0 fp0_1 fp0_2 SM0.out _ A0_0.out A0_1.out A0_2.out).mono ?_
  rintro e w8 ⟨X0v0, X0f0, X0v1, X0f1, X0v2, X0f2, rfl, X0g0, X0g1, X0g2, n, b⟩
  replace A0_0 := Lib.hid (SlR.below mrR_fits A0_0.out b)
  replace A0_1 := Lib.hid (SlR.below intR_fits A0_1.out b)
  replace A0_2 := Lib.hid (SlR.below (slR_fits reqR_fits) A0_2.out b)
  replace A1 := Lib.hid (SlR.below evR_fits A1.out b)
  replace A2 := Lib.hid (SlR.below evR_fits A2.out b)
  replace P0_0 := keep_cell b P0_0
  replace P0_1 := keep_cell b P0_1
  replace P0_2 := keep_cell b P0_2
  replace B := Lib.hid (B.out.trans (b.mono B.out.size))
  obtain ⟨X0a0, X0l0, X0k0, rfl⟩ := X0g0.form
  obtain ⟨X0a1, X0l1, X0k1, rfl⟩ := X0g1.form
  obtain ⟨X0a2, X0l2, X0k2, rfl⟩ := X0g2.form
  have X00 := Lib.hid X0g0
  have X01 := Lib.hid X0g1
  have X02 := Lib.hid X0g2
  clear n b X0g0 X0g1 X0g2
  have ba := below_alloc w8 (.cells #[.slice X0a0 X0l0 X0k0, .slice X0a1 X0l1 X0k1, .slice X0a2 X0l2 X0k2] 32)
  replace A0_0 := Lib.hid (SlR.below mrR_fits A0_0.out ba)
  replace A0_1 := Lib.hid (SlR.below intR_fits A0_1.out ba)
  replace A0_2 := Lib.hid (SlR.below (slR_fits reqR_fits) A0_2.out ba)
  replace A1 := Lib.hid (SlR.below evR_fits A1.out ba)
  replace A2 := Lib.hid (SlR.below evR_fits A2.out ba)
  replace P0_0 := keep_cell ba P0_0
  replace P0_1 := keep_cell ba P0_1
  replace P0_2 := keep_cell ba P0_2
  replace X00 := Lib.hid (SlR.below mrR_fits X00.out ba)
  replace X01 := Lib.hid (SlR.below intR_fits X01.out ba)
  replace X02 := Lib.hid (SlR.below (slR_fits reqR_fits) X02.out ba)
  replace B := Lib.hid (B.out.trans (ba.mono B.out.size))
  have Q0_0 := alloc1_new w8 #[.slice X0a0 X0l0 X0k0, .slice X0a1 X0l1 X0k1, .slice X0a2 X0l2 X0k2] 32 0 rfl
  have Q0_1 := alloc1_new w8 #[.slice X0a0 X0l0 X0k0, .slice X0a1 X0l1 X0k1, .slice X0a2 X0l2 X0k2] 32 1 rfl
  have Q0_2 := alloc1_new w8 #[.slice X0a0 X0l0 X0k0, .slice X0a1 X0l1 X0k1, .slice X0a2 X0l2 X0k2] 32 2 rfl
  clear ba
  have zb0 := block_of_cell P0_0
  go_wp2_with fail
  refine (to_evs _ x1 fp1 SM1.out _ A1.out).mono ?_
  rintro e w9 ⟨X1v0, X1f0, rfl, X1g0, n, b⟩
  replace A0_0 := Lib.hid (SlR.below mrR_fits A0_0.out b)
  replace A0_1 := Lib.hid (SlR.below intR_fits A0_1.out b)
  replace A0_2 := Lib.hid (SlR.below (slR_fits reqR_fits) A0_2.out b)
  replace A1 := Lib.hid (SlR.below evR_fits A1.out b)
  replace A2 := Lib.hid (SlR.below evR_fits A2.out b)
  replace P0_0 := keep_cell b P0_0
  replace P0_1 := keep_cell b P0_1
  replace P0_2 := keep_cell b P0_2
  replace X00 := Lib.hid (SlR.below mrR_fits X00.out b)
  replace X01 := Lib.hid (SlR.below intR_fits X01.out b)
  replace X02 := Lib.hid (SlR.below (slR_fits reqR_fits) X02.out b)
  replace Q0_0 := keep_cell b Q0_0
  replace Q0_1 := keep_cell b Q0_1
  replace Q0_2 := keep_cell b Q0_2
  replace B := Lib.hid (B.out.trans (b.mono B.out.size))
  obtain ⟨X1a0, X1l0, X1k0, rfl⟩ := X1g0.form
  have X10 := Lib.hid X1g0
  clear n b X1g0
  go_wp2_with fail
  refine (to_evs _ x2 fp2 SM2.out _ A2.out).mono ?_
  rintro e w10 ⟨X2v0, X2f0, rfl, X2g0, n, b⟩
  replace A0_0 := Lib.hid (SlR.below mrR_fits A0_0.out b)
  replace A0_1 := Lib.hid (SlR.below intR_fits A0_1.out b)
  replace A0_2 := Lib.hid (SlR.below (slR_fits reqR_fits) A0_2.out b)
  replace A1 := Lib.hid (SlR.below evR_fits A1.out b)
  replace A2 := Lib.hid (SlR.below evR_fits A2.out b)
  replace P0_0 := keep_cell b P0_0
  replace P0_1 := keep_cell b P0_1
  replace P0_2 := keep_cell b P0_2
  replace X00 := Lib.hid (SlR.below mrR_fits X00.out b)
  replace X01 := Lib.hid (SlR.below intR_fits X01.out b)
  replace X02 := Lib.hid (SlR.below (slR_fits reqR_fits) X02.out b)
  replace Q0_0 := keep_cell b Q0_0
  replace Q0_1 := keep_cell b Q0_1
  replace Q0_2 := keep_cell b Q0_2
  replace X10 := Lib.hid (SlR.below evR_fits X10.out b)
  replace B := Lib.hid (B.out.trans (b.mono B.out.size))
  obtain ⟨X2a0, X2l0, X2k0, rfl⟩ := X2g0.form
  have X20 := Lib.hid X2g0
  clear n b X2g0
  go_wp2_with fail
  refine (iTrcSame_any x0 _ _ _ X0f0 X0f1 X0f2 _ x1 X1f0 _ x2 X2f0 _ X00.out X01.out X02.out X10.out X20.out).mono ?_
  rintro e w11 ⟨rfl, b⟩
  replace A0_0 := Lib.hid (SlR.below mrR_fits A0_0.out b)
  replace A0_1 := Lib.hid (SlR.below intR_fits A0_1.out b)
  replace A0_2 := Lib.hid (SlR.below (slR_fits reqR_fits) A0_2.out b)
  replace A1 := Lib.hid (SlR.below evR_fits A1.out b)
  replace A2 := Lib.hid (SlR.below evR_fits A2.out b)
  replace P0_0 := keep_cell b P0_0
  replace P0_1 := keep_cell b P0_1
  replace P0_2 := keep_cell b P0_2
  replace X00 := Lib.hid (SlR.below mrR_fits X00.out b)
  replace X01 := Lib.hid (SlR.below intR_fits X01.out b)
  replace X02 := Lib.hid (SlR.below (slR_fits reqR_fits) X02.out b)
  replace Q0_0 := keep_cell b Q0_0
  replace Q0_1 := keep_cell b Q0_1
  replace Q0_2 := keep_cell b Q0_2
  replace X10 := Lib.hid (SlR.below evR_fits X10.out b)
  replace X20 := Lib.hid (SlR.below evR_fits X20.out b)
  replace B := Lib.hid (B.out.trans (b.mono B.out.size))
  clear b
  go_wp2_with fail
  have hst : ∀ F, F ∈ [FEq (.agg #[.slice X0a0 X0l0 X0k0, .slice X0a1 X0l1 X0k1, .slice X0a2 X0l2 X0k2]), FEq (.agg #[.slice al0_0 ln0_0 kn0_0, .slice al0_1 ln0_1 kn0_1, .slice al0_2 ln0_2 kn0_2]), FTo_Bus x0, FEq (.bool true), FEq (.bool false)] → Stable [] F := by
    simp only [List.forall_mem_cons]
    exact ⟨stEq _ _, stEq _ _, stTo_Bus _, stEq _ _, stEq _ _, fun _ h => by simp at h⟩
  refine wp_region_rule (by kernel_rfl) (fun i => ([[], [], [1], [0, 1, 2], [0, 1, 2, 3]] : List (List Nat)).getD i []) (facts [FEq (.agg #[.slice X0a0 X0l0 X0k0, .slice X0a1 X0l1 X0k1, .slice X0a2 X0l2 X0k2]), FEq (.agg #[.slice al0_0 ln0_0 kn0_0, .slice al0_1 ln0_1 kn0_1, .slice al0_2 ln0_2 kn0_2]), FTo_Bus x0, FEq (.bool true), FEq (.bool false)]) (fun _ w' => Below w11.heap.size w11 w') 63 5 [some 48, some 49, some 50, some 51, some 52] rfl rfl rfl (by kernel_rfl) ?h0 (all_lt (n := 5) ?hop) ?hend
  case h0 => exact (Below.refl _ _).drew
  case hop =>
    refine ⟨⟨⟨⟨⟨trivial, ?_⟩, ?_⟩, ?_⟩, ?_⟩, ?_⟩
    · refine Owes.mk _ rfl rfl (fun _ _ h => by cases h) fun u m w' hm hI hR => ⟨⟨#[undef, undef, undef, undef, undef, undef, undef, undef, undef, .pointer (some ⟨w8.heap.size, 0, none⟩), undef, undef, undef, undef, undef, undef, undef, undef, undef, undef, undef, undef, undef, undef, undef, undef, undef, undef, undef, undef, undef, undef, undef, undef, undef, undef, undef, undef, undef, undef, undef, undef, undef, undef, undef, undef, undef, undef, undef, undef, undef, undef, undef, undef, undef, undef, undef, undef, undef, undef, undef, undef, undef], []⟩, rfl, fun d hd => by cases hd; exact (by decide : 48 < 63), ?_⟩
      have k0 := keep_cell hI Q0_0
      have k1 := keep_cell hI Q0_1
      have k2 := keep_cell hI Q0_2
      have HI := Lib.hid hI
      clear hI hR hst
      go_wp2
      exact ⟨rfl, _, rfl, rfl, HI.out, fun _ _ h => h⟩
    · refine Owes.mk _ rfl rfl (fun _ _ h => by cases h) fun u m w' hm hI hR => ⟨⟨#[undef, undef, undef, .pointer (some ⟨w.heap.size, 0, none⟩), undef, undef, undef, undef, undef, undef, undef, undef, undef, undef, undef, undef, undef, undef, undef, undef, undef, undef, undef, undef, undef, undef, undef, undef, undef, undef, undef, undef, undef, undef, undef, undef, undef, undef, undef, undef, undef, undef, undef, undef, undef, undef, undef, undef, undef, undef, undef, undef, undef, undef, undef, undef, undef, undef, undef, undef, undef, undef, undef], []⟩, rfl, fun d hd => by cases hd; exact (by decide : 49 < 63), ?_⟩
      have k0 := keep_cell hI P0_0
      have k1 := keep_cell hI P0_1
      have k2 := keep_cell hI P0_2
      have HI := Lib.hid hI
      clear hI hR hst
      go_wp2
      exact ⟨rfl, _, rfl, rfl, HI.out, fun _ _ h => h⟩
    · refine Owes.mk _ rfl rfl (fun _ _ h => by cases h) fun u m w' hm hI hR => ⟨⟨#[undef, undef, undef, undef, undef, undef, undef, undef, undef, undef, undef, undef, undef, undef, undef, undef, undef, undef, undef, undef, undef, undef, undef, undef, undef, undef, undef, undef, undef, undef, undef, undef, undef, undef, undef, undef, undef, undef, undef, undef, undef, undef, undef, undef, undef, undef, undef, undef, undef, u 1, undef, undef, undef, undef, undef, undef, undef, undef, undef, undef, undef, undef, undef], []⟩, rfl, fun d hd => by cases hd; exact (by decide : 50 < 63), ?_⟩
      have ea0 : u 1 = _ := hR 1 (by decide)
      rw [ea0]
      clear ea0
      clear hR
      go_wp2_with fail
      refine (to_Bus x0 _ _ _ fp0_0 fp0_1 fp0_2 SM0.out _ (A0_0.out.below mrR_fits hI) (A0_1.out.below intR_fits hI) (A0_2.out.below (slR_fits reqR_fits) hI)).mono ?_
      rintro e w2 ⟨v'0, fq0, v'1, fq1, v'2, fq2, rfl, g'0, g'1, g'2, n', b2⟩
      have hs := facts_stable hst (b2.chg [])
      have HF := Lib.hid (show (FTo_Bus x0) _ w2 from ⟨v'0, v'1, v'2, fq0, fq1, fq2, rfl, g'0, g'1, g'2⟩)
      have HS := Lib.hid hs
      have HI := Lib.hid (hI.trans (b2.mono hI.size))
      clear hs hI b2 hst g'0 g'1 g'2 n'
      go_wp2
      exact ⟨rfl, _, rfl, HF.out, HI.out, HS.out⟩
    · refine Owes.mk _ rfl rfl (fun _ _ h => by cases h) fun u m w' hm hI hR => ⟨⟨#[undef, undef, undef, undef, undef, undef, undef, undef, undef, undef, undef, undef, undef, undef, undef, undef, undef, undef, undef, undef, undef, undef, undef, undef, undef, undef, undef, undef, undef, undef, undef, undef, undef, undef, undef, undef, undef, undef, undef, undef, undef, undef, undef, undef, undef, undef, undef, undef, u 0, undef, u 2, undef, undef, undef, undef, undef, undef, undef, undef, undef, undef, undef, undef], []⟩, rfl, fun d hd => by cases hd; exact (by decide : 51 < 63), ?_⟩
      have ea0 : u 0 = _ := hR 0 (by decide)
      obtain ⟨va10, va11, va12, fqa10, fqa11, fqa12, ea1, ga10, ga11, ga12⟩ := hR 2 (by decide)
      rw [ea0, ea1]
      clear ea0 ea1
      clear hR
      go_wp2_with fail
      refine (eq_Bus x0 x0 _ _ _ _ _ _ X0f0 X0f1 X0f2 fqa10 fqa11 fqa12 _ (X00.out.below mrR_fits hI) (X01.out.below intR_fits hI) (X02.out.below (slR_fits reqR_fits) hI) ga10 ga11 ga12).mono ?_
      rw [decide_eq_true rfl]
      rintro e w2 ⟨rfl, b2⟩
      have hs := facts_stable hst (b2.chg [])
      have HF := Lib.hid (show (FEq (.bool true)) _ w2 from rfl)
      have HS := Lib.hid hs
      have HI := Lib.hid (hI.trans (b2.mono hI.size))
      clear hs hI b2 hst ga10 ga11 ga12
      go_wp2
      exact ⟨rfl, _, rfl, HF.out, HI.out, HS.out⟩
    · refine Owes.mk _ rfl rfl (fun _ _ h => by cases h) fun u m w' hm hI hR => ⟨⟨#[undef, undef, undef, undef, undef, undef, undef, undef, undef, undef, undef, undef, undef, undef, undef, undef, undef, undef, undef, undef, undef, undef, undef, undef, undef, undef, undef, undef, undef, undef, undef, undef, undef, undef, undef, undef, undef, undef, undef, undef, undef, undef, undef, undef, undef, undef, undef, undef, undef, undef, undef, u 3, undef, undef, undef, undef, undef, undef, undef, undef, undef, undef, undef], []⟩, rfl, fun d hd => by cases hd; exact (by decide : 52 < 63), ?_⟩
      have ea : u 3 = _ := hR 3 (by decide)
      rw [ea]
      clear ea
      have HI := Lib.hid hI
      clear hI hR hst
      go_wp2
      exact ⟨rfl, _, rfl, rfl, HI.out, fun _ _ h => h⟩
  case hend =>
    intro u w' hI hR
    simp only [setAll, List.set_cons_zero, List.set_cons_succ]
    have e0 : u 0 = _ := hR 0 (by decide)
    have e1 : u 1 = _ := hR 1 (by decide)
    obtain ⟨vr2_0, vr2_1, vr2_2, fr2_0, fr2_1, fr2_2, e2, gr2_0, gr2_1, gr2_2⟩ := hR 2 (by decide)
    have e3 : u 3 = _ := hR 3 (by decide)
    have e4 : u 4 = _ := hR 4 (by decide)
    have HE := Lib.hid hI
    clear hR hI hst gr2_0 gr2_1 gr2_2
    simp only [Nat.zero_add, Nat.reduceAdd]
    rw [e0, e1, e2, e3, e4]
    clear e0 e1 e2 e3 e4
    have b : Below w11.heap.size w11 w' := HE.out
    obtain ⟨w12, hw⟩ : ∃ W, W = w' := ⟨_, rfl⟩
    rw [← hw] at b ⊢
    clear hw HE
    replace A0_0 := Lib.hid (SlR.below mrR_fits A0_0.out b)
    replace A0_1 := Lib.hid (SlR.below intR_fits A0_1.out b)
    replace A0_2 := Lib.hid (SlR.below (slR_fits reqR_fits) A0_2.out b)
    replace A1 := Lib.hid (SlR.below evR_fits A1.out b)
    replace A2 := Lib.hid (SlR.below evR_fits A2.out b)
    replace P0_0 := keep_cell b P0_0
    replace P0_1 := keep_cell b P0_1
    replace P0_2 := keep_cell b P0_2
    replace X00 := Lib.hid (SlR.below mrR_fits X00.out b)
    replace X01 := Lib.hid (SlR.below intR_fits X01.out b)
    replace X02 := Lib.hid (SlR.below (slR_fits reqR_fits) X02.out b)
    replace Q0_0 := keep_cell b Q0_0
    replace Q0_1 := keep_cell b Q0_1
    replace Q0_2 := keep_cell b Q0_2
    replace X10 := Lib.hid (SlR.below evR_fits X10.out b)
    replace X20 := Lib.hid (SlR.below evR_fits X20.out b)
    replace B := Lib.hid (B.out.trans (b.mono B.out.size))
    clear b
    go_wp2_with fail
    refine (to_evs _ x1 fp1 SM1.out _ A1.out).mono ?_
    rintro e w13 ⟨Z1v0, Z1f0, rfl, Z1g0, n, b⟩
    replace A0_0 := Lib.hid (SlR.below mrR_fits A0_0.out b)
    replace A0_1 := Lib.hid (SlR.below intR_fits A0_1.out b)
    replace A0_2 := Lib.hid (SlR.below (slR_fits reqR_fits) A0_2.out b)
    replace A1 := Lib.hid (SlR.below evR_fits A1.out b)
    replace A2 := Lib.hid (SlR.below evR_fits A2.out b)
    replace P0_0 := keep_cell b P0_0
    replace P0_1 := keep_cell b P0_1
    replace P0_2 := keep_cell b P0_2
    replace X00 := Lib.hid (SlR.below mrR_fits X00.out b)
    replace X01 := Lib.hid (SlR.below intR_fits X01.out b)
    replace X02 := Lib.hid (SlR.below (slR_fits reqR_fits) X02.out b)
    replace Q0_0 := keep_cell b Q0_0
    replace Q0_1 := keep_cell b Q0_1
    replace Q0_2 := keep_cell b Q0_2
    replace X10 := Lib.hid (SlR.below evR_fits X10.out b)
    replace X20 := Lib.hid (SlR.below evR_fits X20.out b)
    replace B := Lib.hid (B.out.trans (b.mono B.out.size))
    obtain ⟨Z1a0, Z1l0, Z1k0, rfl⟩ := Z1g0.form
    have Z10 := Lib.hid Z1g0
    clear n b Z1g0
    go_wp2_with fail
    refine (eq_evs _ _ x1 x1 X1f0 Z1f0 _ X10.out Z10.out).mono ?_
    rw [decide_eq_true rfl]
    rintro e w14 ⟨rfl, b⟩
    replace A0_0 := Lib.hid (SlR.below mrR_fits A0_0.out b)
    replace A0_1 := Lib.hid (SlR.below intR_fits A0_1.out b)
    replace A0_2 := Lib.hid (SlR.below (slR_fits reqR_fits) A0_2.out b)
    replace A1 := Lib.hid (SlR.below evR_fits A1.out b)
    replace A2 := Lib.hid (SlR.below evR_fits A2.out b)
    replace P0_0 := keep_cell b P0_0
    replace P0_1 := keep_cell b P0_1
    replace P0_2 := keep_cell b P0_2
    replace X00 := Lib.hid (SlR.below mrR_fits X00.out b)
    replace X01 := Lib.hid (SlR.below intR_fits X01.out b)
    replace X02 := Lib.hid (SlR.below (slR_fits reqR_fits) X02.out b)
    replace Q0_0 := keep_cell b Q0_0
    replace Q0_1 := keep_cell b Q0_1
    replace Q0_2 := keep_cell b Q0_2
    replace X10 := Lib.hid (SlR.below evR_fits X10.out b)
    replace X20 := Lib.hid (SlR.below evR_fits X20.out b)
    replace Z10 := Lib.hid (SlR.below evR_fits Z10.out b)
    replace B := Lib.hid (B.out.trans (b.mono B.out.size))
    clear b
    go_wp2_with fail
    refine (to_evs _ x2 fp2 SM2.out _ A2.out).mono ?_
    rintro e w15 ⟨Z2v0, Z2f0, rfl, Z2g0, n, b⟩
    replace A0_0 := Lib.hid (SlR.below mrR_fits A0_0.out b)
    replace A0_1 := Lib.hid (SlR.below intR_fits A0_1.out b)
    replace A0_2 := Lib.hid (SlR.below (slR_fits reqR_fits) A0_2.out b)
    replace A1 := Lib.hid (SlR.below evR_fits A1.out b)
    replace A2 := Lib.hid (SlR.below evR_fits A2.out b)
    replace P0_0 := keep_cell b P0_0
    replace P0_1 := keep_cell b P0_1
    replace P0_2 := keep_cell b P0_2
    replace X00 := Lib.hid (SlR.below mrR_fits X00.out b)
    replace X01 := Lib.hid (SlR.below intR_fits X01.out b)
    replace X02 := Lib.hid (SlR.below (slR_fits reqR_fits) X02.out b)
    replace Q0_0 := keep_cell b Q0_0
    replace Q0_1 := keep_cell b Q0_1
    replace Q0_2 := keep_cell b Q0_2
    replace X10 := Lib.hid (SlR.below evR_fits X10.out b)
    replace X20 := Lib.hid (SlR.below evR_fits X20.out b)
    replace Z10 := Lib.hid (SlR.below evR_fits Z10.out b)
    replace B := Lib.hid (B.out.trans (b.mono B.out.size))
    obtain ⟨Z2a0, Z2l0, Z2k0, rfl⟩ := Z2g0.form
    have Z20 := Lib.hid Z2g0
    clear n b Z2g0
    go_wp2_with fail
    refine (eq_evs _ _ x2 x2 X2f0 Z2f0 _ X20.out Z20.out).mono ?_
    rw [decide_eq_true rfl]
    rintro e w16 ⟨rfl, b⟩
    replace A0_0 := Lib.hid (SlR.below mrR_fits A0_0.out b)
    replace A0_1 := Lib.hid (SlR.below intR_fits A0_1.out b)
    replace A0_2 := Lib.hid (SlR.below (slR_fits reqR_fits) A0_2.out b)
    replace A1 := Lib.hid (SlR.below evR_fits A1.out b)
    replace A2 := Lib.hid (SlR.below evR_fits A2.out b)
    replace P0_0 := keep_cell b P0_0
    replace P0_1 := keep_cell b P0_1
    replace P0_2 := keep_cell b P0_2
    replace X00 := Lib.hid (SlR.below mrR_fits X00.out b)
    replace X01 := Lib.hid (SlR.below intR_fits X01.out b)
    replace X02 := Lib.hid (SlR.below (slR_fits reqR_fits) X02.out b)
    replace Q0_0 := keep_cell b Q0_0
    replace Q0_1 := keep_cell b Q0_1
    replace Q0_2 := keep_cell b Q0_2
    replace X10 := Lib.hid (SlR.below evR_fits X10.out b)
    replace X20 := Lib.hid (SlR.below evR_fits X20.out b)
    replace Z10 := Lib.hid (SlR.below evR_fits Z10.out b)
    replace Z20 := Lib.hid (SlR.below evR_fits Z20.out b)
    replace B := Lib.hid (B.out.trans (b.mono B.out.size))
    clear b
    go_wp2
    go_ret
    exact ⟨rfl, B.out⟩


set_option maxRecDepth 100000 in
theorem lifted (os : Os) (started : os.Started) (H : Type) (enc : TypeId × Value → H) :
    ReturnsInHanded {} Try.checked os 6 .any (Rows.fnExactTrcSameSpec.pre6 enc Try.prog Try.f6 Rows.fnExactTrcSameRow.domain false) (Rows.fnExactTrcSameSpec.post enc Try.prog Try.f6 false true false false) := by
  refine returnsInHanded_of_change (C := Try.checked) own started (by kernel_rfl) Try.func6
    (ChangeSpec.witness6 (enc := enc) (C := Try.checked) false ⟨#[], #[.agg #[.slice none 0 0, .slice none 0 0, .slice none 0 0], .slice none 0 0, .slice none 0 0], []⟩ 8 (by kernel_rfl) (by kernel_rfl) (by kernel_rfl) (by kernel_rfl)) ?_
  intro W base args ds gs before hval0 hW hcnd _
  have hval : ∀ (j : Nat) t v, Try.f6.params[j]? = some t → args[j]? = some v → Value.okWide Try.prog W .any base t v := hval0
  have hW' := hW
  obtain ⟨p, q, hA0, hV, rfl, hfz, hnd⟩ := hW
  have hA : DataW.TrodAll enc Try.prog W 0 (fun _ => true) true Try.f6.params.toList args.toList ds p := hA0
  rw [Try.params6] at hA hval
  obtain ⟨v0, vs0, d0, ds0, p0, q0, hargs, rfl, rfl, h0, r0⟩ := trodAll_cons hA
  obtain ⟨v1, vs1, d1, ds1, p1, q1, rfl, rfl, rfl, h1, r1⟩ := trodAll_cons r0
  obtain ⟨v2, vs2, d2, ds2, p2, q2, rfl, rfl, rfl, h2, r2⟩ := trodAll_cons r1
  obtain ⟨rfl, rfl, rfl⟩ := trodAll_nil r2
  obtain rfl : args = #[v0, v1, v2] := by cases args; simp_all
  obtain ⟨rfl, rfl⟩ := trodVars_none hV
  clear hA0 hval0
  simp only [List.append_nil] at hW'
  have hlt0 : ∀ x ∈ p0, x.block < W.heap.size := fun x hx => by simpa using hW'.lt x (by simp [hx])
  have hk0 := h0
  obtain ⟨cs0, rfl, _⟩ := okWide_struct Try.underlying26 (hval 0 26 v0 rfl rfl)
  obtain ⟨fuel0, hf0⟩ := h0
  obtain ⟨x0, fp0, g0⟩ := opens_Bus hf0
  replace g0 : busR W x0 cs0.toList fp0 := g0
  have hlt1 : ∀ x ∈ p1, x.block < W.heap.size := fun x hx => by simpa using hW'.lt x (by simp [hx])
  have hk1 := h1
  obtain ⟨ad1, len1, cap1, rfl⟩ := okWide_slice Try.underlying50 (hval 1 50 v1 rfl rfl)
  obtain ⟨fuel1, hf1⟩ := h1
  obtain ⟨x1, fp1, y1, e1, g1⟩ := opens_evs hf1
  obtain rfl : .slice ad1 len1 cap1 = y1 := by simpa [Value.cells] using e1
  have hlt2 : ∀ x ∈ p2, x.block < W.heap.size := fun x hx => by simpa using hW'.lt x (by simp [hx])
  have hk2 := h2
  obtain ⟨ad2, len2, cap2, rfl⟩ := okWide_slice Try.underlying50 (hval 2 50 v2 rfl rfl)
  obtain ⟨fuel2, hf2⟩ := h2
  obtain ⟨x2, fp2, y2, e2, g2⟩ := opens_evs hf2
  obtain rfl : .slice ad2 len2 cap2 = y2 := by simpa [Value.cells] using e2
  refine (walk cs0 x0 fp0 (.slice ad1 len1 cap1) x1 fp1 (.slice ad2 len2 cap2) x2 fp2 W g0 g1 g2).mono fun e W' ⟨he, hb⟩ => ?_
  subst he
  exact ⟨_, rfl, _, _, _, [], _, [], hW', (trodAll_cons_mk (shut_bool Try.underlying4 _) trodAll_mk0), (trodAll_cons_mk (Below.trod laidOut (by kernel_rfl) (of_decide_eq_true (by kernel_rfl)) hk0 hb hlt0) (trodAll_cons_mk (Below.trod laidOut (by kernel_rfl) (of_decide_eq_true (by kernel_rfl)) hk1 hb hlt1) (trodAll_cons_mk (Below.trod laidOut (by kernel_rfl) (of_decide_eq_true (by kernel_rfl)) hk2 hb hlt2) trodAll_mk0))), rfl, hb.frame _, fun h => by cases h⟩

theorem over : Rows.fnExactTrcSameRow.holds Try.pinned (OpenSpec.ofChange Rows.fnExactTrcSameSpec) :=
  OpenClaim.holds_of_wide 6 Try.f6 rfl rfl rfl rfl rfl rfl rfl ⟨rfl, rfl, rfl, rfl, rfl⟩ rfl rfl rfl rfl rfl (by kernel_rfl) Try.func6 (by kernel_rfl)
    (of_decide_eq_true (by kernel_rfl)) (by unfold Func.isWrapper; first | (rw [if_pos (by decide +kernel)]; kernel_rfl) | (rw [if_neg (by decide +kernel)]; exact ⟨rfl, rfl⟩))
    (fun os started H enc _ => lifted os started H enc)

theorem proved : Rows.FnExactTrcSameSaid :=
  over
#print axioms proved
end Go.Proofs.Ytmmojgopeaelcaa.fnExactTrcSame
