/-
  Proved: the Go function laws.FnExactTlmOk returns true for all arguments, and the arguments read afterwards as before: the program's TlmOk answers as the reference's.
  Conditions: none.
-/
import Derived.Test.YtmmojgopeaelcaaRows
import Derived.Test.YtmmojgopeaelcaaBase
import Derived.WalkKit
import Derived.ProofKit
import Derived.OpenShut
import Derived.Test.YtmmojgopeaelcaaTOk8m
import Derived.Test.YtmmojgopeaelcaaUniMap
import Derived.Test.YtmmojgopeaelcaaFacts
import Derived.Test.YtmmojgopeaelcaaTlm
import Derived.Test.YtmmojgopeaelcaaAtmOk
import Derived.Test.YtmmojgopeaelcaaRsp
namespace Go.Proofs.Ytmmojgopeaelcaa
set_option linter.unusedVariables false
set_option linter.unusedSimpArgs false
open Go.ChangeShapes Go.WideShapes Go.ChangeAt Go.RowKit
theorem own : ownKnob Try.prog.godebug = none := by kernel_rfl
theorem laidOut : laidOutB Try.prog = true := by kernel_rfl
end Go.Proofs.Ytmmojgopeaelcaa

namespace Go.Proofs.Ytmmojgopeaelcaa
open Go.RowKit

theorem alloc1_at (w : World) (A : Array Value) (T : TypeId) (i : Nat) {n : Nat} {v : Value} (h : A[i]? = some v) (hn : n = w.heap.size) : (w.alloc (.cells A T)).cell? ⟨n, i, none⟩ = some v := by
  subst hn; exact alloc1_new w A T i h

end Go.Proofs.Ytmmojgopeaelcaa

namespace Go.Proofs.Ytmmojgopeaelcaa
open Go.RowKit Go.Maps Go.WideMaps Go.ChangeShapes

set_option maxRecDepth 100000 in
set_option maxHeartbeats 12800000 in
theorem iTlmOk_any (x0 : Bus) (v0 v1 v2 : Value) (fp0 fp1 fp2 : List Nat) (x1 : Tlm) (s0 s1 s2 s3 s4 s5 : Value) (fq0 fq1 fq2 fq3 fq4 fq5 : List Nat) (w : World) (g0 : SlR 4 mrR w x0.map v0 fp0) (g1 : SlR 1 intR w x0.lat v1 fp1) (g2 : SlR 1 (slR 7 reqR) w x0.progs v2 fp2)
    (h0 : SlR 1 intR w x1.atm.mem s0 fq0) (h1 : SlR 1 intR w x1.atm.holds s1 fq1) (h2 : SlR 1 intR w x1.asked s2 fq2) (h3 : SlR 5 jobR w x1.wait s3 fq3) (h4 : SlR 5 jobR w x1.done s4 fq4) (h5 : SlR 5 jobR w x1.told s5 fq5) :
    Calls Try.prog 38 #[.agg #[v0, v1, v2], .agg #[s0, s1, s2, s3, s4, s5]] w fun e w' => e = .returned (.bool (tlmOk x0 x1)) ∧ Below w.heap.size w w' := by
  obtain ⟨w1, hw1⟩ : ∃ z, z = (w.alloc (.cells #[v0, v1, v2] 32)).alloc (.cells #[s0, s1, s2, s3, s4, s5] 69) := ⟨_, rfl⟩
  have b1 : Below w.heap.size w w1 := by rw [hw1]; exact (below_alloc _ _).trans ((below_alloc _ _).mono (by simp))
  have X0 : w1.cell? ⟨w.heap.size, 0, none⟩ = some (v0) := by rw [hw1]; exact alloc_keep (alloc1_new _ _ _ 0 rfl) _
  have X1 : w1.cell? ⟨w.heap.size, 1, none⟩ = some (v1) := by rw [hw1]; exact alloc_keep (alloc1_new _ _ _ 1 rfl) _
  have X2 : w1.cell? ⟨w.heap.size, 2, none⟩ = some (v2) := by rw [hw1]; exact alloc_keep (alloc1_new _ _ _ 2 rfl) _
  have S0 : w1.cell? ⟨w.heap.size + 1, 0, none⟩ = some (s0) := by rw [hw1]; exact alloc2_new _ _ _ _ _ 0 rfl
  have S1 : w1.cell? ⟨w.heap.size + 1, 1, none⟩ = some (s1) := by rw [hw1]; exact alloc2_new _ _ _ _ _ 1 rfl
  have S2 : w1.cell? ⟨w.heap.size + 1, 2, none⟩ = some (s2) := by rw [hw1]; exact alloc2_new _ _ _ _ _ 2 rfl
  have S3 : w1.cell? ⟨w.heap.size + 1, 3, none⟩ = some (s3) := by rw [hw1]; exact alloc2_new _ _ _ _ _ 3 rfl
  have S4 : w1.cell? ⟨w.heap.size + 1, 4, none⟩ = some (s4) := by rw [hw1]; exact alloc2_new _ _ _ _ _ 4 rfl
  have S5 : w1.cell? ⟨w.heap.size + 1, 5, none⟩ = some (s5) := by rw [hw1]; exact alloc2_new _ _ _ _ _ 5 rfl
  have G0 := Lib.hid (SlR.below mrR_fits g0 b1)
  have G1 := Lib.hid (SlR.below intR_fits g1 b1)
  have G2 := Lib.hid (SlR.below (slR_fits reqR_fits) g2 b1)
  have H0 := Lib.hid (SlR.below intR_fits h0 b1)
  have H1 := Lib.hid (SlR.below intR_fits h1 b1)
  have H2 := Lib.hid (SlR.below intR_fits h2 b1)
  have H3 := Lib.hid (SlR.below jobR_fits h3 b1)
  have H4 := Lib.hid (SlR.below jobR_fits h4 b1)
  have H5 := Lib.hid (SlR.below jobR_fits h5 b1)
  have B := Lib.hid b1
  clear g0 g1 g2 h0 h1 h2 h3 h4 h5 b1
  cases q : busOk x0
  · have Q := Lib.hid q
    clear q
    go_enter Try.func38, Try.ntmps38
    go_upto_region 1 with fail
    rw [← hw1]
    clear hw1
    go_wp2_with fail
    refine (iBusOk_any x0 _ _ _ fp0 fp1 fp2 _ G0.out G1.out G2.out).mono ?_
    rw [Q.out]
    rintro e w2 ⟨rfl, b⟩
    replace B := Lib.hid (B.out.trans (b.mono B.out.size))
    clear b
    go_wp2
    go_ret
    exact ⟨ret_bool (by rw [tlmOk_eq, Q.out]; rfl), B.out⟩
  · have Q := Lib.hid q
    clear q
    go_enter Try.func38, Try.ntmps38
    go_upto_region 1 with fail
    rw [← hw1]
    clear hw1
    go_wp2_with fail
    refine (iBusOk_any x0 _ _ _ fp0 fp1 fp2 _ G0.out G1.out G2.out).mono ?_
    rw [Q.out]
    rintro e w2 ⟨rfl, b⟩
    replace G2 := Lib.hid (SlR.below (slR_fits reqR_fits) G2.out b)
    replace H0 := Lib.hid (SlR.below intR_fits H0.out b)
    replace H1 := Lib.hid (SlR.below intR_fits H1.out b)
    replace H2 := Lib.hid (SlR.below intR_fits H2.out b)
    replace H3 := Lib.hid (SlR.below jobR_fits H3.out b)
    replace H4 := Lib.hid (SlR.below jobR_fits H4.out b)
    replace H5 := Lib.hid (SlR.below jobR_fits H5.out b)
    replace X0 := keep_cell b X0
    replace X1 := keep_cell b X1
    replace X2 := keep_cell b X2
    replace S0 := keep_cell b S0
    replace S1 := keep_cell b S1
    replace S2 := keep_cell b S2
    replace S3 := keep_cell b S3
    replace S4 := keep_cell b S4
    replace S5 := keep_cell b S5
    replace B := Lib.hid (B.out.trans (b.mono B.out.size))
    clear b
    go_wp2_with fail
    refine (tlmOkI_any x0 Q.out _ _ _ fp2 x1 _ _ _ _ _ _ fq0 fq1 fq2 fq3 fq4 fq5 _ G2.out H0.out H1.out H2.out H3.out H4.out H5.out).mono ?_
    rintro e w3 ⟨rfl, b⟩
    replace B := Lib.hid (B.out.trans (b.mono B.out.size))
    clear b
    go_wp2
    go_ret
    exact ⟨ret_bool (by rw [tlmOk_eq, Q.out, Bool.true_and]), B.out⟩

end Go.Proofs.Ytmmojgopeaelcaa

namespace Go.Proofs.Ytmmojgopeaelcaa.fnExactTlmOk
open Go.ChangeShapes Go.WideShapes Go.ChangeAt Go.RowKit

def FTo_Bus (x : Bus) : Fact := fun v w => ∃ (v'0 : Value) (v'1 : Value) (v'2 : Value) (fq0 : List Nat) (fq1 : List Nat) (fq2 : List Nat), v = .agg #[v'0, v'1, v'2] ∧ SlR 4 mrR w x.map v'0 fq0 ∧ SlR 1 intR w x.lat v'1 fq1 ∧ SlR 1 (slR 7 reqR) w x.progs v'2 fq2
theorem stTo_Bus (x : Bus) : Stable [] (FTo_Bus x) := fun _ _ _ ⟨v0, v1, v2, p0, p1, p2, e, h0, h1, h2⟩ hc => ⟨v0, v1, v2, p0, p1, p2, e, h0.chg mrR_fits hc (fun _ _ => by simp), h1.chg intR_fits hc (fun _ _ => by simp), h2.chg (slR_fits reqR_fits) hc (fun _ _ => by simp)⟩

def FTo_Tlm (x : Tlm) : Fact := fun v w => ∃ (v'0 : Value) (v'1 : Value) (v'2 : Value) (v'3 : Value) (v'4 : Value) (v'5 : Value) (fq0 : List Nat) (fq1 : List Nat) (fq2 : List Nat) (fq3 : List Nat) (fq4 : List Nat) (fq5 : List Nat), v = .agg #[v'0, v'1, v'2, v'3, v'4, v'5] ∧ SlR 1 intR w x.atm.mem v'0 fq0 ∧ SlR 1 intR w x.atm.holds v'1 fq1 ∧ SlR 1 intR w x.asked v'2 fq2 ∧ SlR 5 jobR w x.wait v'3 fq3 ∧ SlR 5 jobR w x.done v'4 fq4 ∧ SlR 5 jobR w x.told v'5 fq5
theorem stTo_Tlm (x : Tlm) : Stable [] (FTo_Tlm x) := fun _ _ _ ⟨v0, v1, v2, v3, v4, v5, p0, p1, p2, p3, p4, p5, e, h0, h1, h2, h3, h4, h5⟩ hc => ⟨v0, v1, v2, v3, v4, v5, p0, p1, p2, p3, p4, p5, e, h0.chg intR_fits hc (fun _ _ => by simp), h1.chg intR_fits hc (fun _ _ => by simp), h2.chg intR_fits hc (fun _ _ => by simp), h3.chg jobR_fits hc (fun _ _ => by simp), h4.chg jobR_fits hc (fun _ _ => by simp), h5.chg jobR_fits hc (fun _ _ => by simp)⟩

set_option maxRecDepth 100000 in
set_option maxHeartbeats 6400000 in
theorem walk (cs0 : Array Value) (x0 : Bus) (fp0 : List Nat) (cs1 : Array Value) (x1 : Tlm) (fp1 : List Nat) (w : World) (h0 : busR w x0 cs0.toList fp0) (h1 : tlmR w x1 cs1.toList fp1) :
    Calls Try.prog 7 #[.agg cs0, .agg cs1] w fun e w' => e = .returned (.bool true) ∧ Below w.heap.size w w' := by
  obtain ⟨cs0⟩ := cs0
  obtain ⟨v0_0, v0_1, v0_2, fp0_0, fp0_1, fp0_2, e, _, g0_0, g0_1, g0_2⟩ := h0
  obtain ⟨al0_0, ln0_0, kn0_0, rfl⟩ := g0_0.form
  obtain ⟨al0_1, ln0_1, kn0_1, rfl⟩ := g0_1.form
  obtain ⟨al0_2, ln0_2, kn0_2, rfl⟩ := g0_2.form
  obtain rfl : cs0 = [.slice al0_0 ln0_0 kn0_0, .slice al0_1 ln0_1 kn0_1, .slice al0_2 ln0_2 kn0_2] := e
  obtain ⟨cs1⟩ := cs1
  obtain ⟨v1_0, v1_1, v1_2, v1_3, v1_4, v1_5, fp1_0, fp1_1, fp1_2, fp1_3, fp1_4, fp1_5, e, _, g1_0, g1_1, g1_2, g1_3, g1_4, g1_5⟩ := h1
  obtain ⟨al1_0, ln1_0, kn1_0, rfl⟩ := g1_0.form
  obtain ⟨al1_1, ln1_1, kn1_1, rfl⟩ := g1_1.form
  obtain ⟨al1_2, ln1_2, kn1_2, rfl⟩ := g1_2.form
  obtain ⟨al1_3, ln1_3, kn1_3, rfl⟩ := g1_3.form
  obtain ⟨al1_4, ln1_4, kn1_4, rfl⟩ := g1_4.form
  obtain ⟨al1_5, ln1_5, kn1_5, rfl⟩ := g1_5.form
  obtain rfl : cs1 = [.slice al1_0 ln1_0 kn1_0, .slice al1_1 ln1_1 kn1_1, .slice al1_2 ln1_2 kn1_2, .slice al1_3 ln1_3 kn1_3, .slice al1_4 ln1_4 kn1_4, .slice al1_5 ln1_5 kn1_5] := e
  have hb : Below w.heap.size w ((w.alloc (.cells #[.slice al0_0 ln0_0 kn0_0, .slice al0_1 ln0_1 kn0_1, .slice al0_2 ln0_2 kn0_2] 26)).alloc (.cells #[.slice al1_0 ln1_0 kn1_0, .slice al1_1 ln1_1 kn1_1, .slice al1_2 ln1_2 kn1_2, .slice al1_3 ln1_3 kn1_3, .slice al1_4 ln1_4 kn1_4, .slice al1_5 ln1_5 kn1_5] 62)) := (((Below.refl _ _).alloc (Nat.le_refl _) _).alloc (by simp) _)
  have A0_0 := Lib.hid (SlR.below mrR_fits g0_0 hb)
  have A0_1 := Lib.hid (SlR.below intR_fits g0_1 hb)
  have A0_2 := Lib.hid (SlR.below (slR_fits reqR_fits) g0_2 hb)
  clear g0_0 g0_1 g0_2
  have A1_0 := Lib.hid (SlR.below intR_fits g1_0 hb)
  have A1_1 := Lib.hid (SlR.below intR_fits g1_1 hb)
  have A1_2 := Lib.hid (SlR.below intR_fits g1_2 hb)
  have A1_3 := Lib.hid (SlR.below jobR_fits g1_3 hb)
  have A1_4 := Lib.hid (SlR.below jobR_fits g1_4 hb)
  have A1_5 := Lib.hid (SlR.below jobR_fits g1_5 hb)
  clear g1_0 g1_1 g1_2 g1_3 g1_4 g1_5
  have B := Lib.hid hb
  clear hb
  go_enter Try.func7, Try.ntmps7
  go_wp2_with fail
  refine (sz_Bus x0 _ _ _ fp0_0 fp0_1 fp0_2 1048576 (by omega) (by omega) _ A0_0.out A0_1.out A0_2.out).mono ?_
  rintro e w1 ⟨z0, rfl, le0, sm0, b⟩
  replace A0_0 := Lib.hid (SlR.below mrR_fits A0_0.out b)
  replace A0_1 := Lib.hid (SlR.below intR_fits A0_1.out b)
  replace A0_2 := Lib.hid (SlR.below (slR_fits reqR_fits) A0_2.out b)
  replace A1_0 := Lib.hid (SlR.below intR_fits A1_0.out b)
  replace A1_1 := Lib.hid (SlR.below intR_fits A1_1.out b)
  replace A1_2 := Lib.hid (SlR.below intR_fits A1_2.out b)
  replace A1_3 := Lib.hid (SlR.below jobR_fits A1_3.out b)
  replace A1_4 := Lib.hid (SlR.below jobR_fits A1_4.out b)
  replace A1_5 := Lib.hid (SlR.below jobR_fits A1_5.out b)
  replace B := Lib.hid (B.out.trans (b.mono B.out.size))
  have P0_0 : w1.cell? ⟨w.heap.size, 0, none⟩ = some (.slice al0_0 ln0_0 kn0_0) := keep_cell b (alloc_keep (alloc1_at _ _ _ 0 rfl (by simp)) _)
  have P0_1 : w1.cell? ⟨w.heap.size, 1, none⟩ = some (.slice al0_1 ln0_1 kn0_1) := keep_cell b (alloc_keep (alloc1_at _ _ _ 1 rfl (by simp)) _)
  have P0_2 : w1.cell? ⟨w.heap.size, 2, none⟩ = some (.slice al0_2 ln0_2 kn0_2) := keep_cell b (alloc_keep (alloc1_at _ _ _ 2 rfl (by simp)) _)
  have P1_0 : w1.cell? ⟨w.heap.size + 1, 0, none⟩ = some (.slice al1_0 ln1_0 kn1_0) := keep_cell b (alloc1_at _ _ _ 0 rfl (by simp))
  have P1_1 : w1.cell? ⟨w.heap.size + 1, 1, none⟩ = some (.slice al1_1 ln1_1 kn1_1) := keep_cell b (alloc1_at _ _ _ 1 rfl (by simp))
  have P1_2 : w1.cell? ⟨w.heap.size + 1, 2, none⟩ = some (.slice al1_2 ln1_2 kn1_2) := keep_cell b (alloc1_at _ _ _ 2 rfl (by simp))
  have P1_3 : w1.cell? ⟨w.heap.size + 1, 3, none⟩ = some (.slice al1_3 ln1_3 kn1_3) := keep_cell b (alloc1_at _ _ _ 3 rfl (by simp))
  have P1_4 : w1.cell? ⟨w.heap.size + 1, 4, none⟩ = some (.slice al1_4 ln1_4 kn1_4) := keep_cell b (alloc1_at _ _ _ 4 rfl (by simp))
  have P1_5 : w1.cell? ⟨w.heap.size + 1, 5, none⟩ = some (.slice al1_5 ln1_5 kn1_5) := keep_cell b (alloc1_at _ _ _ 5 rfl (by simp))
  clear b
  have S0 := Lib.hid sm0
  clear sm0
  cases hz0 : decide (z0 < 0)
  case' true =>
    go_wp2
    go_ret
    exact ⟨rfl, B.out⟩
  have pz0 : 0 ≤ z0 := by have := of_decide_eq_false hz0; omega
  have SM0 := Lib.hid (S0.out pz0)
  clear S0
  go_wp2_with fail
  refine (sz_Tlm x1 _ _ _ _ _ _ fp1_0 fp1_1 fp1_2 fp1_3 fp1_4 fp1_5 z0 (by omega) (by omega) _ A1_0.out A1_1.out A1_2.out A1_3.out A1_4.out A1_5.out).mono ?_
  rintro e w2 ⟨z1, rfl, le1, sm1, b⟩
  replace A0_0 := Lib.hid (SlR.below mrR_fits A0_0.out b)
  replace A0_1 := Lib.hid (SlR.below intR_fits A0_1.out b)
  replace A0_2 := Lib.hid (SlR.below (slR_fits reqR_fits) A0_2.out b)
  replace A1_0 := Lib.hid (SlR.below intR_fits A1_0.out b)
  replace A1_1 := Lib.hid (SlR.below intR_fits A1_1.out b)
  replace A1_2 := Lib.hid (SlR.below intR_fits A1_2.out b)
  replace A1_3 := Lib.hid (SlR.below jobR_fits A1_3.out b)
  replace A1_4 := Lib.hid (SlR.below jobR_fits A1_4.out b)
  replace A1_5 := Lib.hid (SlR.below jobR_fits A1_5.out b)
  replace P0_0 := keep_cell b P0_0
  replace P0_1 := keep_cell b P0_1
  replace P0_2 := keep_cell b P0_2
  replace P1_0 := keep_cell b P1_0
  replace P1_1 := keep_cell b P1_1
  replace P1_2 := keep_cell b P1_2
  replace P1_3 := keep_cell b P1_3
  replace P1_4 := keep_cell b P1_4
  replace P1_5 := keep_cell b P1_5
  replace B := Lib.hid (B.out.trans (b.mono B.out.size))
  clear b
  have S1 := Lib.hid sm1
  clear sm1
  cases hz1 : decide (z1 < 0)
  case' true =>
    go_wp2
    go_ret
    exact ⟨rfl, B.out⟩
  have pz1 : 0 ≤ z1 := by have := of_decide_eq_false hz1; omega
  have SM1 := Lib.hid (S1.out pz1)
  clear S1
  go_wp2_with fail
  have hst : ∀ F, F ∈ [FEq (.agg #[.slice al0_0 ln0_0 kn0_0, .slice al0_1 ln0_1 kn0_1, .slice al0_2 ln0_2 kn0_2]), FTo_Bus x0, FEq (.agg #[.slice al1_0 ln1_0 kn1_0, .slice al1_1 ln1_1 kn1_1, .slice al1_2 ln1_2 kn1_2, .slice al1_3 ln1_3 kn1_3, .slice al1_4 ln1_4 kn1_4, .slice al1_5 ln1_5 kn1_5]), FTo_Tlm x1, FEq (.bool (tlmOk x0 x1)), FEq (.bool (tlmOk x0 x1))] → Stable [] F := by
    simp only [List.forall_mem_cons]
    exact ⟨stEq _ _, stTo_Bus _, stEq _ _, stTo_Tlm _, stEq _ _, stEq _ _, fun _ h => by simp at h⟩
  refine wp_region_rule (by kernel_rfl) (fun i => ([[], [0], [], [0, 1, 2], [0, 1, 2, 3], [0, 1, 2, 3, 4]] : List (List Nat)).getD i []) (facts [FEq (.agg #[.slice al0_0 ln0_0 kn0_0, .slice al0_1 ln0_1 kn0_1, .slice al0_2 ln0_2 kn0_2]), FTo_Bus x0, FEq (.agg #[.slice al1_0 ln1_0 kn1_0, .slice al1_1 ln1_1 kn1_1, .slice al1_2 ln1_2 kn1_2, .slice al1_3 ln1_3 kn1_3, .slice al1_4 ln1_4 kn1_4, .slice al1_5 ln1_5 kn1_5]), FTo_Tlm x1, FEq (.bool (tlmOk x0 x1)), FEq (.bool (tlmOk x0 x1))]) (fun _ w' => Below w2.heap.size w2 w') 45 6 [some 20, some 21, some 22, some 23, some 24, some 6] rfl rfl rfl (by kernel_rfl) ?h0 (all_lt (n := 6) ?hop) ?hend
  case h0 => exact (Below.refl _ _).drew
  case hop =>
    refine ⟨⟨⟨⟨⟨⟨trivial, ?_⟩, ?_⟩, ?_⟩, ?_⟩, ?_⟩, ?_⟩
    · refine Owes.mk _ rfl rfl (fun _ _ h => by cases h) fun u m w' hm hI hR => ⟨⟨#[undef, undef, .pointer (some ⟨w.heap.size, 0, none⟩), undef, undef, undef, undef, undef, undef, undef, undef, undef, undef, undef, undef, undef, undef, undef, undef, undef, undef, undef, undef, undef, undef, undef, undef, undef, undef, undef, undef, undef, undef, undef, undef, undef, undef, undef, undef, undef, undef, undef, undef, undef, undef], []⟩, rfl, fun d hd => by cases hd; exact (by decide : 20 < 45), ?_⟩
      have k0 := keep_cell hI P0_0
      have k1 := keep_cell hI P0_1
      have k2 := keep_cell hI P0_2
      have HI := Lib.hid hI
      clear hI hR hst
      go_wp2
      exact ⟨rfl, _, rfl, rfl, HI.out, fun _ _ h => h⟩
    · refine Owes.mk _ rfl rfl (fun _ _ h => by cases h) fun u m w' hm hI hR => ⟨⟨#[undef, undef, undef, undef, undef, undef, undef, undef, undef, undef, undef, undef, undef, undef, undef, undef, undef, undef, undef, undef, u 0, undef, undef, undef, undef, undef, undef, undef, undef, undef, undef, undef, undef, undef, undef, undef, undef, undef, undef, undef, undef, undef, undef, undef, undef], []⟩, rfl, fun d hd => by cases hd; exact (by decide : 21 < 45), ?_⟩
      have ea0 : u 0 = _ := hR 0 (by decide)
      rw [ea0]
      clear ea0
      clear hR
      go_wp2_with fail
      refine (to_Bus x0 _ _ _ fp0_0 fp0_1 fp0_2 SM0.out _ (A0_0.out.below mrR_fits hI) (A0_1.out.below intR_fits hI) (A0_2.out.below (slR_fits reqR_fits) hI)).mono ?_
      rintro e w2 ⟨v'0, fq0, v'1, fq1, v'2, fq2, rfl, g'0, g'1, g'2, n', b2⟩
      have hs := facts_stable hst (b2.chg [])
      have HF := Lib.hid (show (FTo_Bus x0) _ w2 from ⟨v'0, v'1, v'2, fq0, fq1, fq2, rfl, g'0, g'1, g'2⟩)
      have HS := Lib.hid hs
      have HI := Lib.hid (hI.trans (b2.mono hI.size))
      clear hs hI b2 hst g'0 g'1 g'2 n'
      go_wp2
      exact ⟨rfl, _, rfl, HF.out, HI.out, HS.out⟩
    · refine Owes.mk _ rfl rfl (fun _ _ h => by cases h) fun u m w' hm hI hR => ⟨⟨#[undef, undef, undef, .pointer (some ⟨w.heap.size + 1, 0, none⟩), undef, undef, undef, undef, undef, undef, undef, undef, undef, undef, undef, undef, undef, undef, undef, undef, undef, undef, undef, undef, undef, undef, undef, undef, undef, undef, undef, undef, undef, undef, undef, undef, undef, undef, undef, undef, undef, undef, undef, undef, undef], []⟩, rfl, fun d hd => by cases hd; exact (by decide : 22 < 45), ?_⟩
      have k0 := keep_cell hI P1_0
      have k1 := keep_cell hI P1_1
      have k2 := keep_cell hI P1_2
      have k3 := keep_cell hI P1_3
      have k4 := keep_cell hI P1_4
      have k5 := keep_cell hI P1_5
      have HI := Lib.hid hI
      clear hI hR hst
      go_wp2
      exact ⟨rfl, _, rfl, rfl, HI.out, fun _ _ h => h⟩
    · refine Owes.mk _ rfl rfl (fun _ _ h => by cases h) fun u m w' hm hI hR => ⟨⟨#[undef, undef, undef, undef, undef, undef, undef, undef, undef, undef, undef, undef, undef, undef, undef, undef, undef, undef, undef, undef, undef, undef, u 2, undef, undef, undef, undef, undef, undef, undef, undef, undef, undef, undef, undef, undef, undef, undef, undef, undef, undef, undef, undef, undef, undef], []⟩, rfl, fun d hd => by cases hd; exact (by decide : 23 < 45), ?_⟩
      have ea0 : u 2 = _ := hR 2 (by decide)
      rw [ea0]
      clear ea0
      clear hR
      go_wp2_with fail
      refine (to_Tlm x1 _ _ _ _ _ _ fp1_0 fp1_1 fp1_2 fp1_3 fp1_4 fp1_5 SM1.out _ (A1_0.out.below intR_fits hI) (A1_1.out.below intR_fits hI) (A1_2.out.below intR_fits hI) (A1_3.out.below jobR_fits hI) (A1_4.out.below jobR_fits hI) (A1_5.out.below jobR_fits hI)).mono ?_
      rintro e w2 ⟨v'0, fq0, v'1, fq1, v'2, fq2, v'3, fq3, v'4, fq4, v'5, fq5, rfl, g'0, g'1, g'2, g'3, g'4, g'5, n', b2⟩
      have hs := facts_stable hst (b2.chg [])
      have HF := Lib.hid (show (FTo_Tlm x1) _ w2 from ⟨v'0, v'1, v'2, v'3, v'4, v'5, fq0, fq1, fq2, fq3, fq4, fq5, rfl, g'0, g'1, g'2, g'3, g'4, g'5⟩)
      have HS := Lib.hid hs
      have HI := Lib.hid (hI.trans (b2.mono hI.size))
      clear hs hI b2 hst g'0 g'1 g'2 g'3 g'4 g'5 n'
      go_wp2
      exact ⟨rfl, _, rfl, HF.out, HI.out, HS.out⟩
    · refine Owes.mk _ rfl rfl (fun _ _ h => by cases h) fun u m w' hm hI hR => ⟨⟨#[undef, undef, undef, undef, undef, undef, undef, undef, undef, undef, undef, undef, undef, undef, undef, undef, undef, undef, undef, undef, undef, u 1, undef, u 3, undef, undef, undef, undef, undef, undef, undef, undef, undef, undef, undef, undef, undef, undef, undef, undef, undef, undef, undef, undef, undef], []⟩, rfl, fun d hd => by cases hd; exact (by decide : 24 < 45), ?_⟩
      obtain ⟨va00, va01, va02, fqa00, fqa01, fqa02, ea0, ga00, ga01, ga02⟩ := hR 1 (by decide)
      obtain ⟨va10, va11, va12, va13, va14, va15, fqa10, fqa11, fqa12, fqa13, fqa14, fqa15, ea1, ga10, ga11, ga12, ga13, ga14, ga15⟩ := hR 3 (by decide)
      rw [ea0, ea1]
      clear ea0 ea1
      clear hR
      go_wp2_with fail
      refine (sTlmOk_any x0 _ _ _ fqa00 fqa01 fqa02 x1 _ _ _ _ _ _ fqa10 fqa11 fqa12 fqa13 fqa14 fqa15 _ ga00 ga01 ga02 ga10 ga11 ga12 ga13 ga14 ga15).mono ?_
      rintro e w2 ⟨rfl, b2⟩
      have hs := facts_stable hst (b2.chg [])
      have HF := Lib.hid (show (FEq (.bool (tlmOk x0 x1))) _ w2 from rfl)
      have HS := Lib.hid hs
      have HI := Lib.hid (hI.trans (b2.mono hI.size))
      clear hs hI b2 hst ga00 ga01 ga02 ga10 ga11 ga12 ga13 ga14 ga15
      go_wp2
      exact ⟨rfl, _, rfl, HF.out, HI.out, HS.out⟩
    · refine Owes.mk _ rfl rfl (fun _ _ h => by cases h) fun u m w' hm hI hR => ⟨⟨#[undef, undef, undef, undef, undef, undef, undef, undef, undef, undef, undef, undef, undef, undef, undef, undef, undef, undef, undef, undef, undef, undef, undef, undef, u 4, undef, undef, undef, undef, undef, undef, undef, undef, undef, undef, undef, undef, undef, undef, undef, undef, undef, undef, undef, undef], []⟩, rfl, fun d hd => by cases hd; exact (by decide : 6 < 45), ?_⟩
      have HI := Lib.hid hI
      have HX := Lib.hid (hR 4 (by decide))
      clear hI hR hst
      go_wp2
      exact ⟨rfl, _, rfl, HX.out, HI.out, fun _ _ h => h⟩
  case hend =>
    intro u w' hI hR
    simp only [setAll, List.set_cons_zero, List.set_cons_succ]
    have e0 : u 0 = _ := hR 0 (by decide)
    obtain ⟨vr1_0, vr1_1, vr1_2, fr1_0, fr1_1, fr1_2, e1, gr1_0, gr1_1, gr1_2⟩ := hR 1 (by decide)
    have e2 : u 2 = _ := hR 2 (by decide)
    obtain ⟨vr3_0, vr3_1, vr3_2, vr3_3, vr3_4, vr3_5, fr3_0, fr3_1, fr3_2, fr3_3, fr3_4, fr3_5, e3, gr3_0, gr3_1, gr3_2, gr3_3, gr3_4, gr3_5⟩ := hR 3 (by decide)
    have e4 : u 4 = _ := hR 4 (by decide)
    have e5 : u 5 = _ := hR 5 (by decide)
    have HE := Lib.hid hI
    clear hR hI hst gr1_0 gr1_1 gr1_2 gr3_0 gr3_1 gr3_2 gr3_3 gr3_4 gr3_5
    simp only [Nat.zero_add, Nat.reduceAdd]
    rw [e0, e1, e2, e3, e4, e5]
    clear e0 e1 e2 e3 e4 e5
    have b : Below w2.heap.size w2 w' := HE.out
    obtain ⟨w3, hw⟩ : ∃ W, W = w' := ⟨_, rfl⟩
    rw [← hw] at b ⊢
    clear hw HE
    replace A0_0 := Lib.hid (SlR.below mrR_fits A0_0.out b)
    replace A0_1 := Lib.hid (SlR.below intR_fits A0_1.out b)
    replace A0_2 := Lib.hid (SlR.below (slR_fits reqR_fits) A0_2.out b)
    replace A1_0 := Lib.hid (SlR.below intR_fits A1_0.out b)
    replace A1_1 := Lib.hid (SlR.below intR_fits A1_1.out b)
    replace A1_2 := Lib.hid (SlR.below intR_fits A1_2.out b)
    replace A1_3 := Lib.hid (SlR.below jobR_fits A1_3.out b)
    replace A1_4 := Lib.hid (SlR.below jobR_fits A1_4.out b)
    replace A1_5 := Lib.hid (SlR.below jobR_fits A1_5.out b)
    replace P0_0 := keep_cell b P0_0
    replace P0_1 := keep_cell b P0_1
    replace P0_2 := keep_cell b P0_2
    replace P1_0 := keep_cell b P1_0
    replace P1_1 := keep_cell b P1_1
    replace P1_2 := keep_cell b P1_2
    replace P1_3 := keep_cell b P1_3
    replace P1_4 := keep_cell b P1_4
    replace P1_5 := keep_cell b P1_5
    replace B := Lib.hid (B.out.trans (b.mono B.out.size))
    clear b
    go_wp2_with fail
    refine (to_Bus x0 _ _ _ fp0_0 fp0_1 fp0_2 SM0.out _ A0_0.out A0_1.out A0_2.out).mono ?_
    rintro e w4 ⟨X0v0, X0f0, X0v1, X0f1, X0v2, X0f2, rfl, X0g0, X0g1, X0g2, n, b⟩
    replace A0_0 := Lib.hid (SlR.below mrR_fits A0_0.out b)
    replace A0_1 := Lib.hid (SlR.below intR_fits A0_1.out b)
    replace A0_2 := Lib.hid (SlR.below (slR_fits reqR_fits) A0_2.out b)
    replace A1_0 := Lib.hid (SlR.below intR_fits A1_0.out b)
    replace A1_1 := Lib.hid (SlR.below intR_fits A1_1.out b)
    replace A1_2 := Lib.hid (SlR.below intR_fits A1_2.out b)
    replace A1_3 := Lib.hid (SlR.below jobR_fits A1_3.out b)
    replace A1_4 := Lib.hid (SlR.below jobR_fits A1_4.out b)
    replace A1_5 := Lib.hid (SlR.below jobR_fits A1_5.out b)
    replace P0_0 := keep_cell b P0_0
    replace P0_1 := keep_cell b P0_1
    replace P0_2 := keep_cell b P0_2
    replace P1_0 := keep_cell b P1_0
    replace P1_1 := keep_cell b P1_1
    replace P1_2 := keep_cell b P1_2
    replace P1_3 := keep_cell b P1_3
    replace P1_4 := keep_cell b P1_4
    replace P1_5 := keep_cell b P1_5
    replace B := Lib.hid (B.out.trans (b.mono B.out.size))
    obtain ⟨X0a0, X0l0, X0k0, rfl⟩ := X0g0.form
    obtain ⟨X0a1, X0l1, X0k1, rfl⟩ := X0g1.form
    obtain ⟨X0a2, X0l2, X0k2, rfl⟩ := X0g2.form
    have X00 := Lib.hid X0g0
    have X01 := Lib.hid X0g1
    have X02 := Lib.hid X0g2
    clear n b X0g0 X0g1 X0g2
    have ba := below_alloc w4 (.cells #[.slice X0a0 X0l0 X0k0, .slice X0a1 X0l1 X0k1, .slice X0a2 X0l2 X0k2] 32)
    replace A0_0 := Lib.hid (SlR.below mrR_fits A0_0.out ba)
    replace A0_1 := Lib.hid (SlR.below intR_fits A0_1.out ba)
    replace A0_2 := Lib.hid (SlR.below (slR_fits reqR_fits) A0_2.out ba)
    replace A1_0 := Lib.hid (SlR.below intR_fits A1_0.out ba)
    replace A1_1 := Lib.hid (SlR.below intR_fits A1_1.out ba)
    replace A1_2 := Lib.hid (SlR.below intR_fits A1_2.out ba)
    replace A1_3 := Lib.hid (SlR.below jobR_fits A1_3.out ba)
    replace A1_4 := Lib.hid (SlR.below jobR_fits A1_4.out ba)
    replace A1_5 := Lib.hid (SlR.below jobR_fits A1_5.out ba)
    replace P0_0 := keep_cell ba P0_0
    replace P0_1 := keep_cell ba P0_1
    replace P0_2 := keep_cell ba P0_2
    replace P1_0 := keep_cell ba P1_0
    replace P1_1 := keep_cell ba P1_1
    replace P1_2 := keep_cell ba P1_2
    replace P1_3 := keep_cell ba P1_3
    replace P1_4 := keep_cell ba P1_4
    replace P1_5 := keep_cell ba P1_5
    replace X00 := Lib.hid (SlR.below mrR_fits X00.out ba)
    replace X01 := Lib.hid (SlR.below intR_fits X01.out ba)
    replace X02 := Lib.hid (SlR.below (slR_fits reqR_fits) X02.out ba)
    replace B := Lib.hid (B.out.trans (ba.mono B.out.size))
    have Q0_0 := alloc1_new w4 #[.slice X0a0 X0l0 X0k0, .slice X0a1 X0l1 X0k1, .slice X0a2 X0l2 X0k2] 32 0 rfl
    have Q0_1 := alloc1_new w4 #[.slice X0a0 X0l0 X0k0, .slice X0a1 X0l1 X0k1, .slice X0a2 X0l2 X0k2] 32 1 rfl
    have Q0_2 := alloc1_new w4 #[.slice X0a0 X0l0 X0k0, .slice X0a1 X0l1 X0k1, .slice X0a2 X0l2 X0k2] 32 2 rfl
    clear ba
    have zb0 := block_of_cell P0_0
    go_wp2_with fail
    refine (to_Tlm x1 _ _ _ _ _ _ fp1_0 fp1_1 fp1_2 fp1_3 fp1_4 fp1_5 SM1.out _ A1_0.out A1_1.out A1_2.out A1_3.out A1_4.out A1_5.out).mono ?_
    rintro e w5 ⟨X1v0, X1f0, X1v1, X1f1, X1v2, X1f2, X1v3, X1f3, X1v4, X1f4, X1v5, X1f5, rfl, X1g0, X1g1, X1g2, X1g3, X1g4, X1g5, n, b⟩
    replace A0_0 := Lib.hid (SlR.below mrR_fits A0_0.out b)
    replace A0_1 := Lib.hid (SlR.below intR_fits A0_1.out b)
    replace A0_2 := Lib.hid (SlR.below (slR_fits reqR_fits) A0_2.out b)
    replace A1_0 := Lib.hid (SlR.below intR_fits A1_0.out b)
    replace A1_1 := Lib.hid (SlR.below intR_fits A1_1.out b)
    replace A1_2 := Lib.hid (SlR.below intR_fits A1_2.out b)
    replace A1_3 := Lib.hid (SlR.below jobR_fits A1_3.out b)
    replace A1_4 := Lib.hid (SlR.below jobR_fits A1_4.out b)
    replace A1_5 := Lib.hid (SlR.below jobR_fits A1_5.out b)
    replace P0_0 := keep_cell b P0_0
    replace P0_1 := keep_cell b P0_1
    replace P0_2 := keep_cell b P0_2
    replace P1_0 := keep_cell b P1_0
    replace P1_1 := keep_cell b P1_1
    replace P1_2 := keep_cell b P1_2
    replace P1_3 := keep_cell b P1_3
    replace P1_4 := keep_cell b P1_4
    replace P1_5 := keep_cell b P1_5
    replace X00 := Lib.hid (SlR.below mrR_fits X00.out b)
    replace X01 := Lib.hid (SlR.below intR_fits X01.out b)
    replace X02 := Lib.hid (SlR.below (slR_fits reqR_fits) X02.out b)
    replace Q0_0 := keep_cell b Q0_0
    replace Q0_1 := keep_cell b Q0_1
    replace Q0_2 := keep_cell b Q0_2
    replace B := Lib.hid (B.out.trans (b.mono B.out.size))
    obtain ⟨X1a0, X1l0, X1k0, rfl⟩ := X1g0.form
    obtain ⟨X1a1, X1l1, X1k1, rfl⟩ := X1g1.form
    obtain ⟨X1a2, X1l2, X1k2, rfl⟩ := X1g2.form
    obtain ⟨X1a3, X1l3, X1k3, rfl⟩ := X1g3.form
    obtain ⟨X1a4, X1l4, X1k4, rfl⟩ := X1g4.form
    obtain ⟨X1a5, X1l5, X1k5, rfl⟩ := X1g5.form
    have X10 := Lib.hid X1g0
    have X11 := Lib.hid X1g1
    have X12 := Lib.hid X1g2
    have X13 := Lib.hid X1g3
    have X14 := Lib.hid X1g4
    have X15 := Lib.hid X1g5
    clear n b X1g0 X1g1 X1g2 X1g3 X1g4 X1g5
    have ba := below_alloc w5 (.cells #[.slice X1a0 X1l0 X1k0, .slice X1a1 X1l1 X1k1, .slice X1a2 X1l2 X1k2, .slice X1a3 X1l3 X1k3, .slice X1a4 X1l4 X1k4, .slice X1a5 X1l5 X1k5] 69)
    replace A0_0 := Lib.hid (SlR.below mrR_fits A0_0.out ba)
    replace A0_1 := Lib.hid (SlR.below intR_fits A0_1.out ba)
    replace A0_2 := Lib.hid (SlR.below (slR_fits reqR_fits) A0_2.out ba)
    replace A1_0 := Lib.hid (SlR.below intR_fits A1_0.out ba)
    replace A1_1 := Lib.hid (SlR.below intR_fits A1_1.out ba)
    replace A1_2 := Lib.hid (SlR.below intR_fits A1_2.out ba)
    replace A1_3 := Lib.hid (SlR.below jobR_fits A1_3.out ba)
    replace A1_4 := Lib.hid (SlR.below jobR_fits A1_4.out ba)
    replace A1_5 := Lib.hid (SlR.below jobR_fits A1_5.out ba)
    replace P0_0 := keep_cell ba P0_0
    replace P0_1 := keep_cell ba P0_1
    replace P0_2 := keep_cell ba P0_2
    replace P1_0 := keep_cell ba P1_0
    replace P1_1 := keep_cell ba P1_1
    replace P1_2 := keep_cell ba P1_2
    replace P1_3 := keep_cell ba P1_3
    replace P1_4 := keep_cell ba P1_4
    replace P1_5 := keep_cell ba P1_5
    replace X00 := Lib.hid (SlR.below mrR_fits X00.out ba)
    replace X01 := Lib.hid (SlR.below intR_fits X01.out ba)
    replace X02 := Lib.hid (SlR.below (slR_fits reqR_fits) X02.out ba)
    replace Q0_0 := keep_cell ba Q0_0
    replace Q0_1 := keep_cell ba Q0_1
    replace Q0_2 := keep_cell ba Q0_2
    replace X10 := Lib.hid (SlR.below intR_fits X10.out ba)
    replace X11 := Lib.hid (SlR.below intR_fits X11.out ba)
    replace X12 := Lib.hid (SlR.below intR_fits X12.out ba)
    replace X13 := Lib.hid (SlR.below jobR_fits X13.out ba)
    replace X14 := Lib.hid (SlR.below jobR_fits X14.out ba)
    replace X15 := Lib.hid (SlR.below jobR_fits X15.out ba)
    replace B := Lib.hid (B.out.trans (ba.mono B.out.size))
    have Q1_0 := alloc1_new w5 #[.slice X1a0 X1l0 X1k0, .slice X1a1 X1l1 X1k1, .slice X1a2 X1l2 X1k2, .slice X1a3 X1l3 X1k3, .slice X1a4 X1l4 X1k4, .slice X1a5 X1l5 X1k5] 69 0 rfl
    have Q1_1 := alloc1_new w5 #[.slice X1a0 X1l0 X1k0, .slice X1a1 X1l1 X1k1, .slice X1a2 X1l2 X1k2, .slice X1a3 X1l3 X1k3, .slice X1a4 X1l4 X1k4, .slice X1a5 X1l5 X1k5] 69 1 rfl
    have Q1_2 := alloc1_new w5 #[.slice X1a0 X1l0 X1k0, .slice X1a1 X1l1 X1k1, .slice X1a2 X1l2 X1k2, .slice X1a3 X1l3 X1k3, .slice X1a4 X1l4 X1k4, .slice X1a5 X1l5 X1k5] 69 2 rfl
    have Q1_3 := alloc1_new w5 #[.slice X1a0 X1l0 X1k0, .slice X1a1 X1l1 X1k1, .slice X1a2 X1l2 X1k2, .slice X1a3 X1l3 X1k3, .slice X1a4 X1l4 X1k4, .slice X1a5 X1l5 X1k5] 69 3 rfl
    have Q1_4 := alloc1_new w5 #[.slice X1a0 X1l0 X1k0, .slice X1a1 X1l1 X1k1, .slice X1a2 X1l2 X1k2, .slice X1a3 X1l3 X1k3, .slice X1a4 X1l4 X1k4, .slice X1a5 X1l5 X1k5] 69 4 rfl
    have Q1_5 := alloc1_new w5 #[.slice X1a0 X1l0 X1k0, .slice X1a1 X1l1 X1k1, .slice X1a2 X1l2 X1k2, .slice X1a3 X1l3 X1k3, .slice X1a4 X1l4 X1k4, .slice X1a5 X1l5 X1k5] 69 5 rfl
    clear ba
    have zb1 := block_of_cell P0_0
    go_wp2_with fail
    refine (iTlmOk_any x0 _ _ _ X0f0 X0f1 X0f2 x1 _ _ _ _ _ _ X1f0 X1f1 X1f2 X1f3 X1f4 X1f5 _ X00.out X01.out X02.out X10.out X11.out X12.out X13.out X14.out X15.out).mono ?_
    rintro e w6 ⟨rfl, b⟩
    replace A0_0 := Lib.hid (SlR.below mrR_fits A0_0.out b)
    replace A0_1 := Lib.hid (SlR.below intR_fits A0_1.out b)
    replace A0_2 := Lib.hid (SlR.below (slR_fits reqR_fits) A0_2.out b)
    replace A1_0 := Lib.hid (SlR.below intR_fits A1_0.out b)
    replace A1_1 := Lib.hid (SlR.below intR_fits A1_1.out b)
    replace A1_2 := Lib.hid (SlR.below intR_fits A1_2.out b)
    replace A1_3 := Lib.hid (SlR.below jobR_fits A1_3.out b)
    replace A1_4 := Lib.hid (SlR.below jobR_fits A1_4.out b)
    replace A1_5 := Lib.hid (SlR.below jobR_fits A1_5.out b)
    replace P0_0 := keep_cell b P0_0
    replace P0_1 := keep_cell b P0_1
    replace P0_2 := keep_cell b P0_2
    replace P1_0 := keep_cell b P1_0
    replace P1_1 := keep_cell b P1_1
    replace P1_2 := keep_cell b P1_2
    replace P1_3 := keep_cell b P1_3
    replace P1_4 := keep_cell b P1_4
    replace P1_5 := keep_cell b P1_5
    replace X00 := Lib.hid (SlR.below mrR_fits X00.out b)
    replace X01 := Lib.hid (SlR.below intR_fits X01.out b)
    replace X02 := Lib.hid (SlR.below (slR_fits reqR_fits) X02.out b)
    replace Q0_0 := keep_cell b Q0_0
    replace Q0_1 := keep_cell b Q0_1
    replace Q0_2 := keep_cell b Q0_2
    replace X10 := Lib.hid (SlR.below intR_fits X10.out b)
    replace X11 := Lib.hid (SlR.below intR_fits X11.out b)
    replace X12 := Lib.hid (SlR.below intR_fits X12.out b)
    replace X13 := Lib.hid (SlR.below jobR_fits X13.out b)
    replace X14 := Lib.hid (SlR.below jobR_fits X14.out b)
    replace X15 := Lib.hid (SlR.below jobR_fits X15.out b)
    replace Q1_0 := keep_cell b Q1_0
    replace Q1_1 := keep_cell b Q1_1
    replace Q1_2 := keep_cell b Q1_2
    replace Q1_3 := keep_cell b Q1_3
    replace Q1_4 := keep_cell b Q1_4
    replace Q1_5 := keep_cell b Q1_5
    replace B := Lib.hid (B.out.trans (b.mono B.out.size))
    clear b
    go_wp2_with fail
    have hst : ∀ F, F ∈ [FEq (.agg #[.slice X0a0 X0l0 X0k0, .slice X0a1 X0l1 X0k1, .slice X0a2 X0l2 X0k2]), FEq (.agg #[.slice al0_0 ln0_0 kn0_0, .slice al0_1 ln0_1 kn0_1, .slice al0_2 ln0_2 kn0_2]), FTo_Bus x0, FEq (.bool true), FEq (.bool false)] → Stable [] F := by
      simp only [List.forall_mem_cons]
      exact ⟨stEq _ _, stEq _ _, stTo_Bus _, stEq _ _, stEq _ _, fun _ h => by simp at h⟩
    refine wp_region_rule (by kernel_rfl) (fun i => ([[], [], [1], [0, 1, 2], [0, 1, 2, 3]] : List (List Nat)).getD i []) (facts [FEq (.agg #[.slice X0a0 X0l0 X0k0, .slice X0a1 X0l1 X0k1, .slice X0a2 X0l2 X0k2]), FEq (.agg #[.slice al0_0 ln0_0 kn0_0, .slice al0_1 ln0_1 kn0_1, .slice al0_2 ln0_2 kn0_2]), FTo_Bus x0, FEq (.bool true), FEq (.bool false)]) (fun _ w' => Below w6.heap.size w6 w') 45 5 [some 35, some 36, some 37, some 38, some 39] rfl rfl rfl (by kernel_rfl) ?h0 (all_lt (n := 5) ?hop) ?hend
    case h0 => exact (Below.refl _ _).drew
    case hop =>
      refine ⟨⟨⟨⟨⟨trivial, ?_⟩, ?_⟩, ?_⟩, ?_⟩, ?_⟩
      · refine Owes.mk _ rfl rfl (fun _ _ h => by cases h) fun u m w' hm hI hR => ⟨⟨#[undef, undef, undef, undef, undef, undef, undef, .pointer (some ⟨w4.heap.size, 0, none⟩), undef, undef, undef, undef, undef, undef, undef, undef, undef, undef, undef, undef, undef, undef, undef, undef, undef, undef, undef, undef, undef, undef, undef, undef, undef, undef, undef, undef, undef, undef, undef, undef, undef, undef, undef, undef, undef], []⟩, rfl, fun d hd => by cases hd; exact (by decide : 35 < 45), ?_⟩
        have k0 := keep_cell hI Q0_0
        have k1 := keep_cell hI Q0_1
        have k2 := keep_cell hI Q0_2
        have HI := Lib.hid hI
        clear hI hR hst
        go_wp2
        exact ⟨rfl, _, rfl, rfl, HI.out, fun _ _ h => h⟩
      · refine Owes.mk _ rfl rfl (fun _ _ h => by cases h) fun u m w' hm hI hR => ⟨⟨#[undef, undef, .pointer (some ⟨w.heap.size, 0, none⟩), undef, undef, undef, undef, undef, undef, undef, undef, undef, undef, undef, undef, undef, undef, undef, undef, undef, undef, undef, undef, undef, undef, undef, undef, undef, undef, undef, undef, undef, undef, undef, undef, undef, undef, undef, undef, undef, undef, undef, undef, undef, undef], []⟩, rfl, fun d hd => by cases hd; exact (by decide : 36 < 45), ?_⟩
        have k0 := keep_cell hI P0_0
        have k1 := keep_cell hI P0_1
        have k2 := keep_cell hI P0_2
        have HI := Lib.hid hI
        clear hI hR hst
        go_wp2
        exact ⟨rfl, _, rfl, rfl, HI.out, fun _ _ h => h⟩
      · refine Owes.mk _ rfl rfl (fun _ _ h => by cases h) fun u m w' hm hI hR => ⟨⟨#[undef, undef, undef, undef, undef, undef, undef, undef, undef, undef, undef, undef, undef, undef, undef, undef, undef, undef, undef, undef, undef, undef, undef, undef, undef, undef, undef, undef, undef, undef, undef, undef, undef, undef, undef, undef, u 1, undef, undef, undef, undef, undef, undef, undef, undef], []⟩, rfl, fun d hd => by cases hd; exact (by decide : 37 < 45), ?_⟩
        have ea0 : u 1 = _ := hR 1 (by decide)
        rw [ea0]
        clear ea0
        clear hR
        go_wp2_with fail
        refine (to_Bus x0 _ _ _ fp0_0 fp0_1 fp0_2 SM0.out _ (A0_0.out.below mrR_fits hI) (A0_1.out.below intR_fits hI) (A0_2.out.below (slR_fits reqR_fits) hI)).mono ?_
        rintro e w2 ⟨v'0, fq0, v'1, fq1, v'2, fq2, rfl, g'0, g'1, g'2, n', b2⟩
        have hs := facts_stable hst (b2.chg [])
        have HF := Lib.hid (show (FTo_Bus x0) _ w2 from ⟨v'0, v'1, v'2, fq0, fq1, fq2, rfl, g'0, g'1, g'2⟩)
        have HS := Lib.hid hs
        have HI := Lib.hid (hI.trans (b2.mono hI.size))
        clear hs hI b2 hst g'0 g'1 g'2 n'
        go_wp2
        exact ⟨rfl, _, rfl, HF.out, HI.out, HS.out⟩
      · refine Owes.mk _ rfl rfl (fun _ _ h => by cases h) fun u m w' hm hI hR => ⟨⟨#[undef, undef, undef, undef, undef, undef, undef, undef, undef, undef, undef, undef, undef, undef, undef, undef, undef, undef, undef, undef, undef, undef, undef, undef, undef, undef, undef, undef, undef, undef, undef, undef, undef, undef, undef, u 0, undef, u 2, undef, undef, undef, undef, undef, undef, undef], []⟩, rfl, fun d hd => by cases hd; exact (by decide : 38 < 45), ?_⟩
        have ea0 : u 0 = _ := hR 0 (by decide)
        obtain ⟨va10, va11, va12, fqa10, fqa11, fqa12, ea1, ga10, ga11, ga12⟩ := hR 2 (by decide)
        rw [ea0, ea1]
        clear ea0 ea1
        clear hR
        go_wp2_with fail
        refine (eq_Bus x0 x0 _ _ _ _ _ _ X0f0 X0f1 X0f2 fqa10 fqa11 fqa12 _ (X00.out.below mrR_fits hI) (X01.out.below intR_fits hI) (X02.out.below (slR_fits reqR_fits) hI) ga10 ga11 ga12).mono ?_
        rw [decide_eq_true rfl]
        rintro e w2 ⟨rfl, b2⟩
        have hs := facts_stable hst (b2.chg [])
        have HF := Lib.hid (show (FEq (.bool true)) _ w2 from rfl)
        have HS := Lib.hid hs
        have HI := Lib.hid (hI.trans (b2.mono hI.size))
        clear hs hI b2 hst ga10 ga11 ga12
        go_wp2
        exact ⟨rfl, _, rfl, HF.out, HI.out, HS.out⟩
      · refine Owes.mk _ rfl rfl (fun _ _ h => by cases h) fun u m w' hm hI hR => ⟨⟨#[undef, undef, undef, undef, undef, undef, undef, undef, undef, undef, undef, undef, undef, undef, undef, undef, undef, undef, undef, undef, undef, undef, undef, undef, undef, undef, undef, undef, undef, undef, undef, undef, undef, undef, undef, undef, undef, undef, u 3, undef, undef, undef, undef, undef, undef], []⟩, rfl, fun d hd => by cases hd; exact (by decide : 39 < 45), ?_⟩
        have ea : u 3 = _ := hR 3 (by decide)
        rw [ea]
        clear ea
        have HI := Lib.hid hI
        clear hI hR hst
        go_wp2
        exact ⟨rfl, _, rfl, rfl, HI.out, fun _ _ h => h⟩
    case hend =>
      intro u w' hI hR
      simp only [setAll, List.set_cons_zero, List.set_cons_succ]
      have e0 : u 0 = _ := hR 0 (by decide)
      have e1 : u 1 = _ := hR 1 (by decide)
      obtain ⟨vr2_0, vr2_1, vr2_2, fr2_0, fr2_1, fr2_2, e2, gr2_0, gr2_1, gr2_2⟩ := hR 2 (by decide)
      have e3 : u 3 = _ := hR 3 (by decide)
      have e4 : u 4 = _ := hR 4 (by decide)
      have HE := Lib.hid hI
      clear hR hI hst gr2_0 gr2_1 gr2_2
      simp only [Nat.zero_add, Nat.reduceAdd]
      rw [e0, e1, e2, e3, e4]
      clear e0 e1 e2 e3 e4
      have b : Below w6.heap.size w6 w' := HE.out
      obtain ⟨w7, hw⟩ : ∃ W, W = w' := ⟨_, rfl⟩
      rw [← hw] at b ⊢
      clear hw HE
      replace A0_0 := Lib.hid (SlR.below mrR_fits A0_0.out b)
      replace A0_1 := Lib.hid (SlR.below intR_fits A0_1.out b)
      replace A0_2 := Lib.hid (SlR.below (slR_fits reqR_fits) A0_2.out b)
      replace A1_0 := Lib.hid (SlR.below intR_fits A1_0.out b)
      replace A1_1 := Lib.hid (SlR.below intR_fits A1_1.out b)
      replace A1_2 := Lib.hid (SlR.below intR_fits A1_2.out b)
      replace A1_3 := Lib.hid (SlR.below jobR_fits A1_3.out b)
      replace A1_4 := Lib.hid (SlR.below jobR_fits A1_4.out b)
      replace A1_5 := Lib.hid (SlR.below jobR_fits A1_5.out b)
      replace P0_0 := keep_cell b P0_0
      replace P0_1 := keep_cell b P0_1
      replace P0_2 := keep_cell b P0_2
      replace P1_0 := keep_cell b P1_0
      replace P1_1 := keep_cell b P1_1
      replace P1_2 := keep_cell b P1_2
      replace P1_3 := keep_cell b P1_3
      replace P1_4 := keep_cell b P1_4
      replace P1_5 := keep_cell b P1_5
      replace X00 := Lib.hid (SlR.below mrR_fits X00.out b)
      replace X01 := Lib.hid (SlR.below intR_fits X01.out b)
      replace X02 := Lib.hid (SlR.below (slR_fits reqR_fits) X02.out b)
      replace Q0_0 := keep_cell b Q0_0
      replace Q0_1 := keep_cell b Q0_1
      replace Q0_2 := keep_cell b Q0_2
      replace X10 := Lib.hid (SlR.below intR_fits X10.out b)
      replace X11 := Lib.hid (SlR.below intR_fits X11.out b)
      replace X12 := Lib.hid (SlR.below intR_fits X12.out b)
      replace X13 := Lib.hid (SlR.below jobR_fits X13.out b)
      replace X14 := Lib.hid (SlR.below jobR_fits X14.out b)
      replace X15 := Lib.hid (SlR.below jobR_fits X15.out b)
      replace Q1_0 := keep_cell b Q1_0
      replace Q1_1 := keep_cell b Q1_1
      replace Q1_2 := keep_cell b Q1_2
      replace Q1_3 := keep_cell b Q1_3
      replace Q1_4 := keep_cell b Q1_4
      replace Q1_5 := keep_cell b Q1_5
      replace B := Lib.hid (B.out.trans (b.mono B.out.size))
      clear b
      go_wp2_with fail
      have hst : ∀ F, F ∈ [FEq (.agg #[.slice X1a0 X1l0 X1k0, .slice X1a1 X1l1 X1k1, .slice X1a2 X1l2 X1k2, .slice X1a3 X1l3 X1k3, .slice X1a4 X1l4 X1k4, .slice X1a5 X1l5 X1k5]), FEq (.agg #[.slice al1_0 ln1_0 kn1_0, .slice al1_1 ln1_1 kn1_1, .slice al1_2 ln1_2 kn1_2, .slice al1_3 ln1_3 kn1_3, .slice al1_4 ln1_4 kn1_4, .slice al1_5 ln1_5 kn1_5]), FTo_Tlm x1, FEq (.bool true), FEq (.bool false)] → Stable [] F := by
        simp only [List.forall_mem_cons]
        exact ⟨stEq _ _, stEq _ _, stTo_Tlm _, stEq _ _, stEq _ _, fun _ h => by simp at h⟩
      refine wp_region_rule (by kernel_rfl) (fun i => ([[], [], [1], [0, 1, 2], [0, 1, 2, 3]] : List (List Nat)).getD i []) (facts [FEq (.agg #[.slice X1a0 X1l0 X1k0, .slice X1a1 X1l1 X1k1, .slice X1a2 X1l2 X1k2, .slice X1a3 X1l3 X1k3, .slice X1a4 X1l4 X1k4, .slice X1a5 X1l5 X1k5]), FEq (.agg #[.slice al1_0 ln1_0 kn1_0, .slice al1_1 ln1_1 kn1_1, .slice al1_2 ln1_2 kn1_2, .slice al1_3 ln1_3 kn1_3, .slice al1_4 ln1_4 kn1_4, .slice al1_5 ln1_5 kn1_5]), FTo_Tlm x1, FEq (.bool true), FEq (.bool false)]) (fun _ w' => Below w7.heap.size w7 w') 45 5 [some 40, some 41, some 42, some 43, some 44] rfl rfl rfl (by kernel_rfl) ?h0 (all_lt (n := 5) ?hop) ?hend
      case h0 => exact (Below.refl _ _).drew
      case hop =>
        refine ⟨⟨⟨⟨⟨trivial, ?_⟩, ?_⟩, ?_⟩, ?_⟩, ?_⟩
        · refine Owes.mk _ rfl rfl (fun _ _ h => by cases h) fun u m w' hm hI hR => ⟨⟨#[undef, undef, undef, undef, undef, undef, undef, undef, .pointer (some ⟨w5.heap.size, 0, none⟩), undef, undef, undef, undef, undef, undef, undef, undef, undef, undef, undef, undef, undef, undef, undef, undef, undef, undef, undef, undef, undef, undef, undef, undef, undef, undef, undef, undef, undef, undef, undef, undef, undef, undef, undef, undef], []⟩, rfl, fun d hd => by cases hd; exact (by decide : 40 < 45), ?_⟩
          have k0 := keep_cell hI Q1_0
          have k1 := keep_cell hI Q1_1
          have k2 := keep_cell hI Q1_2
          have k3 := keep_cell hI Q1_3
          have k4 := keep_cell hI Q1_4
          have k5 := keep_cell hI Q1_5
          have HI := Lib.hid hI
          clear hI hR hst
          go_wp2
          exact ⟨rfl, _, rfl, rfl, HI.out, fun _ _ h => h⟩
        · refine Owes.mk _ rfl rfl (fun _ _ h => by cases h) fun u m w' hm hI hR => ⟨⟨#[undef, undef, undef, .pointer (some ⟨w.heap.size + 1, 0, none⟩), undef, undef, undef, undef, undef, undef, undef, undef, undef, undef, undef, undef, undef, undef, undef, undef, undef, undef, undef, undef, undef, undef, undef, undef, undef, undef, undef, undef, undef, undef, undef, undef, undef, undef, undef, undef, undef, undef, undef, undef, undef], []⟩, rfl, fun d hd => by cases hd; exact (by decide : 41 < 45), ?_⟩
          have k0 := keep_cell hI P1_0
          have k1 := keep_cell hI P1_1
          have k2 := keep_cell hI P1_2
          have k3 := keep_cell hI P1_3
          have k4 := keep_cell hI P1_4
          have k5 := keep_cell hI P1_5
          have HI := Lib.hid hI
          clear hI hR hst
          go_wp2
          exact ⟨rfl, _, rfl, rfl, HI.out, fun _ _ h => h⟩
        · refine Owes.mk _ rfl rfl (fun _ _ h => by cases h) fun u m w' hm hI hR => ⟨⟨#[undef, undef, undef, undef, undef, undef, undef, undef, undef, undef, undef, undef, undef, undef, undef, undef, undef, undef, undef, undef, undef, undef, undef, undef, undef, undef, undef, undef, undef, undef, undef, undef, undef, undef, undef, undef, undef, undef, undef, undef, undef, u 1, undef, undef, undef], []⟩, rfl, fun d hd => by cases hd; exact (by decide : 42 < 45), ?_⟩
          have ea0 : u 1 = _ := hR 1 (by decide)
          rw [ea0]
          clear ea0
          clear hR
          go_wp2_with fail
          refine (to_Tlm x1 _ _ _ _ _ _ fp1_0 fp1_1 fp1_2 fp1_3 fp1_4 fp1_5 SM1.out _ (A1_0.out.below intR_fits hI) (A1_1.out.below intR_fits hI) (A1_2.out.below intR_fits hI) (A1_3.out.below jobR_fits hI) (A1_4.out.below jobR_fits hI) (A1_5.out.below jobR_fits hI)).mono ?_
          rintro e w2 ⟨v'0, fq0, v'1, fq1, v'2, fq2, v'3, fq3, v'4, fq4, v'5, fq5, rfl, g'0, g'1, g'2, g'3, g'4, g'5, n', b2⟩
          have hs := facts_stable hst (b2.chg [])
          have HF := Lib.hid (show (FTo_Tlm x1) _ w2 from ⟨v'0, v'1, v'2, v'3, v'4, v'5, fq0, fq1, fq2, fq3, fq4, fq5, rfl, g'0, g'1, g'2, g'3, g'4, g'5⟩)
          have HS := Lib.hid hs
          have HI := Lib.hid (hI.trans (b2.mono hI.size))
          clear hs hI b2 hst g'0 g'1 g'2 g'3 g'4 g'5 n'
          go_wp2
          exact ⟨rfl, _, rfl, HF.out, HI.out, HS.out⟩
        · refine Owes.mk _ rfl rfl (fun _ _ h => by cases h) fun u m w' hm hI hR => ⟨⟨#[undef, undef, undef, undef, undef, undef, undef, undef, undef, undef, undef, undef, undef, undef, undef, undef, undef, undef, undef, undef, undef, undef, undef, undef, undef, undef, undef, undef, undef, undef, undef, undef, undef, undef, undef, undef, undef, undef, undef, undef, u 0, undef, u 2, undef, undef], []⟩, rfl, fun d hd => by cases hd; exact (by decide : 43 < 45), ?_⟩
          have ea0 : u 0 = _ := hR 0 (by decide)
          obtain ⟨va10, va11, va12, va13, va14, va15, fqa10, fqa11, fqa12, fqa13, fqa14, fqa15, ea1, ga10, ga11, ga12, ga13, ga14, ga15⟩ := hR 2 (by decide)
          rw [ea0, ea1]
          clear ea0 ea1
          clear hR
          go_wp2_with fail
          refine (eq_Tlm x1 x1 _ _ _ _ _ _ _ _ _ _ _ _ X1f0 X1f1 X1f2 X1f3 X1f4 X1f5 fqa10 fqa11 fqa12 fqa13 fqa14 fqa15 _ (X10.out.below intR_fits hI) (X11.out.below intR_fits hI) (X12.out.below intR_fits hI) (X13.out.below jobR_fits hI) (X14.out.below jobR_fits hI) (X15.out.below jobR_fits hI) ga10 ga11 ga12 ga13 ga14 ga15).mono ?_
          rw [decide_eq_true rfl]
          rintro e w2 ⟨rfl, b2⟩
          have hs := facts_stable hst (b2.chg [])
          have HF := Lib.hid (show (FEq (.bool true)) _ w2 from rfl)
          have HS := Lib.hid hs
          have HI := Lib.hid (hI.trans (b2.mono hI.size))
          clear hs hI b2 hst ga10 ga11 ga12 ga13 ga14 ga15
          go_wp2
          exact ⟨rfl, _, rfl, HF.out, HI.out, HS.out⟩
        · refine Owes.mk _ rfl rfl (fun _ _ h => by cases h) fun u m w' hm hI hR => ⟨⟨#[undef, undef, undef, undef, undef, undef, undef, undef, undef, undef, undef, undef, undef, undef, undef, undef, undef, undef, undef, undef, undef, undef, undef, undef, undef, undef, undef, undef, undef, undef, undef, undef, undef, undef, undef, undef, undef, undef, undef, undef, undef, undef, undef, u 3, undef], []⟩, rfl, fun d hd => by cases hd; exact (by decide : 44 < 45), ?_⟩
          have ea : u 3 = _ := hR 3 (by decide)
          rw [ea]
          clear ea
          have HI := Lib.hid hI
          clear hI hR hst
          go_wp2
          exact ⟨rfl, _, rfl, rfl, HI.out, fun _ _ h => h⟩
      case hend =>
        intro u w' hI hR
        simp only [setAll, List.set_cons_zero, List.set_cons_succ]
        have e0 : u 0 = _ := hR 0 (by decide)
        have e1 : u 1 = _ := hR 1 (by decide)
        obtain ⟨vr2_0, vr2_1, vr2_2, vr2_3, vr2_4, vr2_5, fr2_0, fr2_1, fr2_2, fr2_3, fr2_4, fr2_5, e2, gr2_0, gr2_1, gr2_2, gr2_3, gr2_4, gr2_5⟩ := hR 2 (by decide)
        have e3 : u 3 = _ := hR 3 (by decide)
        have e4 : u 4 = _ := hR 4 (by decide)
        have HE := Lib.hid hI
        clear hR hI hst gr2_0 gr2_1 gr2_2 gr2_3 gr2_4 gr2_5
        simp only [Nat.zero_add, Nat.reduceAdd]
        rw [e0, e1, e2, e3, e4]
        clear e0 e1 e2 e3 e4
        have b : Below w7.heap.size w7 w' := HE.out
        obtain ⟨w8, hw⟩ : ∃ W, W = w' := ⟨_, rfl⟩
        rw [← hw] at b ⊢
        clear hw HE
        replace A0_0 := Lib.hid (SlR.below mrR_fits A0_0.out b)
        replace A0_1 := Lib.hid (SlR.below intR_fits A0_1.out b)
        replace A0_2 := Lib.hid (SlR.below (slR_fits reqR_fits) A0_2.out b)
        replace A1_0 := Lib.hid (SlR.below intR_fits A1_0.out b)
        replace A1_1 := Lib.hid (SlR.below intR_fits A1_1.out b)
        replace A1_2 := Lib.hid (SlR.below intR_fits A1_2.out b)
        replace A1_3 := Lib.hid (SlR.below jobR_fits A1_3.out b)
        replace A1_4 := Lib.hid (SlR.below jobR_fits A1_4.out b)
        replace A1_5 := Lib.hid (SlR.below jobR_fits A1_5.out b)
        replace P0_0 := keep_cell b P0_0
        replace P0_1 := keep_cell b P0_1
        replace P0_2 := keep_cell b P0_2
        replace P1_0 := keep_cell b P1_0
        replace P1_1 := keep_cell b P1_1
        replace P1_2 := keep_cell b P1_2
        replace P1_3 := keep_cell b P1_3
        replace P1_4 := keep_cell b P1_4
        replace P1_5 := keep_cell b P1_5
        replace X00 := Lib.hid (SlR.below mrR_fits X00.out b)
        replace X01 := Lib.hid (SlR.below intR_fits X01.out b)
        replace X02 := Lib.hid (SlR.below (slR_fits reqR_fits) X02.out b)
        replace Q0_0 := keep_cell b Q0_0
        replace Q0_1 := keep_cell b Q0_1
        replace Q0_2 := keep_cell b Q0_2
        replace X10 := Lib.hid (SlR.below intR_fits X10.out b)
        replace X11 := Lib.hid (SlR.below intR_fits X11.out b)
        replace X12 := Lib.hid (SlR.below intR_fits X12.out b)
        replace X13 := Lib.hid (SlR.below jobR_fits X13.out b)
        replace X14 := Lib.hid (SlR.below jobR_fits X14.out b)
        replace X15 := Lib.hid (SlR.below jobR_fits X15.out b)
        replace Q1_0 := keep_cell b Q1_0
        replace Q1_1 := keep_cell b Q1_1
        replace Q1_2 := keep_cell b Q1_2
        replace Q1_3 := keep_cell b Q1_3
        replace Q1_4 := keep_cell b Q1_4
        replace Q1_5 := keep_cell b Q1_5
        replace B := Lib.hid (B.out.trans (b.mono B.out.size))
        clear b
        go_wp2
        go_ret
        exact ⟨rfl, B.out⟩


set_option maxRecDepth 100000 in
theorem lifted (os : Os) (started : os.Started) (H : Type) (enc : TypeId × Value → H) :
    ReturnsInHanded {} Try.checked os 7 .any (Rows.fnExactTlmOkSpec.pre6 enc Try.prog Try.f7 Rows.fnExactTlmOkRow.domain false) (Rows.fnExactTlmOkSpec.post enc Try.prog Try.f7 false true false false) := by
  refine returnsInHanded_of_change (C := Try.checked) own started (by kernel_rfl) Try.func7
    (ChangeSpec.witness6 (enc := enc) (C := Try.checked) false ⟨#[], #[.agg #[.slice none 0 0, .slice none 0 0, .slice none 0 0], .agg #[.slice none 0 0, .slice none 0 0, .slice none 0 0, .slice none 0 0, .slice none 0 0, .slice none 0 0]], []⟩ 8 (by kernel_rfl) (by kernel_rfl) (by kernel_rfl) (by kernel_rfl)) ?_
  intro W base args ds gs before hval0 hW hcnd _
  have hval : ∀ (j : Nat) t v, Try.f7.params[j]? = some t → args[j]? = some v → Value.okWide Try.prog W .any base t v := hval0
  have hW' := hW
  obtain ⟨p, q, hA0, hV, rfl, hfz, hnd⟩ := hW
  have hA : DataW.TrodAll enc Try.prog W 0 (fun _ => true) true Try.f7.params.toList args.toList ds p := hA0
  rw [Try.params7] at hA hval
  obtain ⟨v0, vs0, d0, ds0, p0, q0, hargs, rfl, rfl, h0, r0⟩ := trodAll_cons hA
  obtain ⟨v1, vs1, d1, ds1, p1, q1, rfl, rfl, rfl, h1, r1⟩ := trodAll_cons r0
  obtain ⟨rfl, rfl, rfl⟩ := trodAll_nil r1
  obtain rfl : args = #[v0, v1] := by cases args; simp_all
  obtain ⟨rfl, rfl⟩ := trodVars_none hV
  clear hA0 hval0
  simp only [List.append_nil] at hW'
  have hlt0 : ∀ x ∈ p0, x.block < W.heap.size := fun x hx => by simpa using hW'.lt x (by simp [hx])
  have hk0 := h0
  obtain ⟨cs0, rfl, _⟩ := okWide_struct Try.underlying26 (hval 0 26 v0 rfl rfl)
  obtain ⟨fuel0, hf0⟩ := h0
  obtain ⟨x0, fp0, g0⟩ := opens_Bus hf0
  replace g0 : busR W x0 cs0.toList fp0 := g0
  have hlt1 : ∀ x ∈ p1, x.block < W.heap.size := fun x hx => by simpa using hW'.lt x (by simp [hx])
  have hk1 := h1
  obtain ⟨cs1, rfl, _⟩ := okWide_struct Try.underlying62 (hval 1 62 v1 rfl rfl)
  obtain ⟨fuel1, hf1⟩ := h1
  obtain ⟨x1, fp1, g1⟩ := opens_Tlm hf1
  replace g1 : tlmR W x1 cs1.toList fp1 := g1
  refine (walk cs0 x0 fp0 cs1 x1 fp1 W g0 g1).mono fun e W' ⟨he, hb⟩ => ?_
  subst he
  exact ⟨_, rfl, _, _, _, [], _, [], hW', (trodAll_cons_mk (shut_bool Try.underlying4 _) trodAll_mk0), (trodAll_cons_mk (Below.trod laidOut (by kernel_rfl) (of_decide_eq_true (by kernel_rfl)) hk0 hb hlt0) (trodAll_cons_mk (Below.trod laidOut (by kernel_rfl) (of_decide_eq_true (by kernel_rfl)) hk1 hb hlt1) trodAll_mk0)), rfl, hb.frame _, fun h => by cases h⟩

theorem over : Rows.fnExactTlmOkRow.holds Try.pinned (OpenSpec.ofChange Rows.fnExactTlmOkSpec) :=
  OpenClaim.holds_of_wide 7 Try.f7 rfl rfl rfl rfl rfl rfl rfl ⟨rfl, rfl, rfl, rfl, rfl⟩ rfl rfl rfl rfl rfl (by kernel_rfl) Try.func7 (by kernel_rfl)
    (of_decide_eq_true (by kernel_rfl)) (by unfold Func.isWrapper; first | (rw [if_pos (by decide +kernel)]; kernel_rfl) | (rw [if_neg (by decide +kernel)]; exact ⟨rfl, rfl⟩))
    (fun os started H enc _ => lifted os started H enc)

theorem proved : Rows.FnExactTlmOkSaid :=
  over
#print axioms proved
end Go.Proofs.Ytmmojgopeaelcaa.fnExactTlmOk
