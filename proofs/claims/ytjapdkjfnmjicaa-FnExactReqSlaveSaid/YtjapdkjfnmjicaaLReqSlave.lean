/-
  Proved: the Go function laws.FnExactReqSlave returns true for all arguments, and the arguments read afterwards as before: the program's ReqSlave answers as the reference's.
  Conditions: none.
-/
import Derived.Test.YtjapdkjfnmjicaaLift
import Derived.Test.YtjapdkjfnmjicaaSlave
import Derived.Test.YtjapdkjfnmjicaaUniMap
import Derived.Test.YtjapdkjfnmjicaaFacts
namespace Go.Proofs.Ytjapdkjfnmjicaa.fnExactReqSlave
set_option linter.unusedVariables false
set_option linter.unusedSimpArgs false
open Go.ChangeShapes Go.WideShapes Go.ChangeAt Go.RowKit

def FTo_Req (x : Req) : Fact := fun v w => ∃ (v'0 : Value) (v'1 : Value) (fq0 : List Nat) (fq1 : List Nat), v = .agg #[.int .i64 x.id, .int .i64 x.kind, .int .i64 x.addr, .int .i64 x.many, .bool x.wrap, v'0, v'1] ∧ SlR 1 intR w x.data v'0 fq0 ∧ SlR 1 intR w x.lanes v'1 fq1
theorem stTo_Req (x : Req) : Stable [] (FTo_Req x) := fun _ _ _ ⟨v0, v1, p0, p1, e, h0, h1⟩ hc => ⟨v0, v1, p0, p1, e, h0.chg intR_fits hc (fun _ _ => by simp), h1.chg intR_fits hc (fun _ _ => by simp)⟩

set_option maxRecDepth 100000 in
set_option maxHeartbeats 6400000 in
theorem walk (v0 : Value) (x0 : List MR) (fp0 : List Nat) (cs1 : Array Value) (x1 : Req) (fp1 : List Nat) (w : World) (h0 : SlR 4 mrR w x0 v0 fp0) (h1 : reqR w x1 cs1.toList fp1) :
    Calls Try.prog 12 #[v0, .agg cs1] w fun e w' => e = .returned (.bool true) ∧ Below w.heap.size w w' := by
  obtain ⟨al0, ln0, kn0, rfl⟩ := h0.form
  obtain ⟨cs1⟩ := cs1
  obtain ⟨v1_0, v1_1, fp1_0, fp1_1, e, _, g1_0, g1_1⟩ := h1
  obtain ⟨al1_0, ln1_0, kn1_0, rfl⟩ := g1_0.form
  obtain ⟨al1_1, ln1_1, kn1_1, rfl⟩ := g1_1.form
  obtain rfl : cs1 = [.int .i64 x1.id, .int .i64 x1.kind, .int .i64 x1.addr, .int .i64 x1.many, .bool x1.wrap, .slice al1_0 ln1_0 kn1_0, .slice al1_1 ln1_1 kn1_1] := e
  have hb : Below w.heap.size w (w.alloc (.cells #[.int .i64 x1.id, .int .i64 x1.kind, .int .i64 x1.addr, .int .i64 x1.many, .bool x1.wrap, .slice al1_0 ln1_0 kn1_0, .slice al1_1 ln1_1 kn1_1] 73)) := ((Below.refl _ _).alloc (Nat.le_refl _) _)
  have A0 := Lib.hid (SlR.below mrR_fits h0 hb)
  clear h0
  have A1_0 := Lib.hid (SlR.below intR_fits g1_0 hb)
  have A1_1 := Lib.hid (SlR.below intR_fits g1_1 hb)
  clear g1_0 g1_1
  have B := Lib.hid hb
  clear hb
  go_enter Try.func12, Try.ntmps12
  go_wp2_with fail
  refine (sz_mrs _ x0 fp0 1048576 (by omega) (by omega) _ A0.out).mono ?_
  rintro e w1 ⟨z0, rfl, le0, sm0, b⟩
  replace A0 := Lib.hid (SlR.below mrR_fits A0.out b)
  replace A1_0 := Lib.hid (SlR.below intR_fits A1_0.out b)
  replace A1_1 := Lib.hid (SlR.below intR_fits A1_1.out b)
  replace B := Lib.hid (B.out.trans (b.mono B.out.size))
  have P1_0 : w1.cell? ⟨w.heap.size, 0, none⟩ = some (.int .i64 x1.id) := keep_cell b (alloc1_new w _ _ 0 rfl)
  have P1_1 : w1.cell? ⟨w.heap.size, 1, none⟩ = some (.int .i64 x1.kind) := keep_cell b (alloc1_new w _ _ 1 rfl)
  have P1_2 : w1.cell? ⟨w.heap.size, 2, none⟩ = some (.int .i64 x1.addr) := keep_cell b (alloc1_new w _ _ 2 rfl)
  have P1_3 : w1.cell? ⟨w.heap.size, 3, none⟩ = some (.int .i64 x1.many) := keep_cell b (alloc1_new w _ _ 3 rfl)
  have P1_4 : w1.cell? ⟨w.heap.size, 4, none⟩ = some (.bool x1.wrap) := keep_cell b (alloc1_new w _ _ 4 rfl)
  have P1_5 : w1.cell? ⟨w.heap.size, 5, none⟩ = some (.slice al1_0 ln1_0 kn1_0) := keep_cell b (alloc1_new w _ _ 5 rfl)
  have P1_6 : w1.cell? ⟨w.heap.size, 6, none⟩ = some (.slice al1_1 ln1_1 kn1_1) := keep_cell b (alloc1_new w _ _ 6 rfl)
  clear b
  have S0 := Lib.hid sm0
  clear sm0
  cases hz0 : decide (z0 < 0)
  case' true =>
    go_wp2
    go_ret
    exact ⟨rfl, B.out⟩
  have pz0 : 0 ≤ z0 := by have := of_decide_eq_false hz0; omega
  have SM0 := Lib.hid (S0.out pz0)
  clear S0
  go_wp2_with fail
  refine (sz_Req x1 _ _ fp1_0 fp1_1 z0 (by omega) (by omega) _ A1_0.out A1_1.out).mono ?_
  rintro e w2 ⟨z1, rfl, le1, sm1, b⟩
  replace A0 := Lib.hid (SlR.below mrR_fits A0.out b)
  replace A1_0 := Lib.hid (SlR.below intR_fits A1_0.out b)
  replace A1_1 := Lib.hid (SlR.below intR_fits A1_1.out b)
  replace P1_0 := keep_cell b P1_0
  replace P1_1 := keep_cell b P1_1
  replace P1_2 := keep_cell b P1_2
  replace P1_3 := keep_cell b P1_3
  replace P1_4 := keep_cell b P1_4
  replace P1_5 := keep_cell b P1_5
  replace P1_6 := keep_cell b P1_6
  replace B := Lib.hid (B.out.trans (b.mono B.out.size))
  clear b
  have S1 := Lib.hid sm1
  clear sm1
  cases hz1 : decide (z1 < 0)
  case' true =>
    go_wp2
    go_ret
    exact ⟨rfl, B.out⟩
  have pz1 : 0 ≤ z1 := by have := of_decide_eq_false hz1; omega
  have SM1 := Lib.hid (S1.out pz1)
  clear S1
  go_wp2_with fail
  have hst : ∀ F, F ∈ [FEq (.slice al0 ln0 kn0), FSlR 4 mrR x0, FEq (.agg #[.int .i64 x1.id, .int .i64 x1.kind, .int .i64 x1.addr, .int .i64 x1.many, .bool x1.wrap, .slice al1_0 ln1_0 kn1_0, .slice al1_1 ln1_1 kn1_1]), FTo_Req x1, FEq (.int .i64 (reqSlave x0 x1)), FEq (.int .i64 (reqSlave x0 x1))] → Stable [] F := by
    simp only [List.forall_mem_cons]
    exact ⟨stEq _ _, stSlR mrR_fits _, stEq _ _, stTo_Req _, stEq _ _, stEq _ _, fun _ h => by simp at h⟩
  refine wp_region_rule (by kernel_rfl) (fun i => ([[], [0], [], [0, 1, 2], [0, 1, 2, 3], [0, 1, 2, 3, 4]] : List (List Nat)).getD i []) (facts [FEq (.slice al0 ln0 kn0), FSlR 4 mrR x0, FEq (.agg #[.int .i64 x1.id, .int .i64 x1.kind, .int .i64 x1.addr, .int .i64 x1.many, .bool x1.wrap, .slice al1_0 ln1_0 kn1_0, .slice al1_1 ln1_1 kn1_1]), FTo_Req x1, FEq (.int .i64 (reqSlave x0 x1)), FEq (.int .i64 (reqSlave x0 x1))]) (fun _ w' => Below w2.heap.size w2 w') 45 6 [some 20, some 21, some 22, some 23, some 24, some 6] rfl rfl rfl (by kernel_rfl) ?h0 (all_lt (n := 6) ?hop) ?hend
  case h0 => exact (Below.refl _ _).drew
  case hop =>
    refine ⟨⟨⟨⟨⟨⟨trivial, ?_⟩, ?_⟩, ?_⟩, ?_⟩, ?_⟩, ?_⟩
    · refine Owes.mk _ rfl rfl (fun _ _ h => by cases h) fun u m w' hm hI hR => ⟨⟨#[.slice al0 ln0 kn0, undef, undef, undef, undef, undef, undef, undef, undef, undef, undef, undef, undef, undef, undef, undef, undef, undef, undef, undef, undef, undef, undef, undef, undef, undef, undef, undef, undef, undef, undef, undef, undef, undef, undef, undef, undef, undef, undef, undef, undef, undef, undef, undef, undef], []⟩, rfl, fun d hd => by cases hd; exact (by decide : 20 < 45), ?_⟩
      have HI := Lib.hid hI
      clear hI hR hst
      go_wp2
      exact ⟨rfl, _, rfl, rfl, HI.out, fun _ _ h => h⟩
    · refine Owes.mk _ rfl rfl (fun _ _ h => by cases h) fun u m w' hm hI hR => ⟨⟨#[undef, undef, undef, undef, undef, undef, undef, undef, undef, undef, undef, undef, undef, undef, undef, undef, undef, undef, undef, undef, u 0, undef, undef, undef, undef, undef, undef, undef, undef, undef, undef, undef, undef, undef, undef, undef, undef, undef, undef, undef, undef, undef, undef, undef, undef], []⟩, rfl, fun d hd => by cases hd; exact (by decide : 21 < 45), ?_⟩
      have ea0 : u 0 = _ := hR 0 (by decide)
      rw [ea0]
      clear ea0
      clear hR
      go_wp2_with fail
      refine (to_mrs _ x0 fp0 SM0.out _ (A0.out.below mrR_fits hI)).mono ?_
      rintro e w2 ⟨v', fq, rfl, g', n', b2⟩
      have hs := facts_stable hst (b2.chg [])
      have HF := Lib.hid (show (FSlR 4 mrR x0) _ w2 from ⟨fq, g'⟩)
      have HS := Lib.hid hs
      have HI := Lib.hid (hI.trans (b2.mono hI.size))
      clear hs hI b2 hst g' n'
      go_wp2
      exact ⟨rfl, _, rfl, HF.out, HI.out, HS.out⟩
    · refine Owes.mk _ rfl rfl (fun _ _ h => by cases h) fun u m w' hm hI hR => ⟨⟨#[undef, undef, undef, .pointer (some ⟨w.heap.size, 0, none⟩), undef, undef, undef, undef, undef, undef, undef, undef, undef, undef, undef, undef, undef, undef, undef, undef, undef, undef, undef, undef, undef, undef, undef, undef, undef, undef, undef, undef, undef, undef, undef, undef, undef, undef, undef, undef, undef, undef, undef, undef, undef], []⟩, rfl, fun d hd => by cases hd; exact (by decide : 22 < 45), ?_⟩
      have k0 := keep_cell hI P1_0
      have k1 := keep_cell hI P1_1
      have k2 := keep_cell hI P1_2
      have k3 := keep_cell hI P1_3
      have k4 := keep_cell hI P1_4
      have k5 := keep_cell hI P1_5
      have k6 := keep_cell hI P1_6
      have HI := Lib.hid hI
      clear hI hR hst
      go_wp2
      exact ⟨rfl, _, rfl, rfl, HI.out, fun _ _ h => h⟩
    · refine Owes.mk _ rfl rfl (fun _ _ h => by cases h) fun u m w' hm hI hR => ⟨⟨#[undef, undef, undef, undef, undef, undef, undef, undef, undef, undef, undef, undef, undef, undef, undef, undef, undef, undef, undef, undef, undef, undef, u 2, undef, undef, undef, undef, undef, undef, undef, undef, undef, undef, undef, undef, undef, undef, undef, undef, undef, undef, undef, undef, undef, undef], []⟩, rfl, fun d hd => by cases hd; exact (by decide : 23 < 45), ?_⟩
      have ea0 : u 2 = _ := hR 2 (by decide)
      rw [ea0]
      clear ea0
      clear hR
      go_wp2_with fail
      refine (to_Req x1 _ _ fp1_0 fp1_1 SM1.out _ (A1_0.out.below intR_fits hI) (A1_1.out.below intR_fits hI)).mono ?_
      rintro e w2 ⟨v'0, fq0, v'1, fq1, rfl, g'0, g'1, n', b2⟩
      have hs := facts_stable hst (b2.chg [])
      have HF := Lib.hid (show (FTo_Req x1) _ w2 from ⟨v'0, v'1, fq0, fq1, rfl, g'0, g'1⟩)
      have HS := Lib.hid hs
      have HI := Lib.hid (hI.trans (b2.mono hI.size))
      clear hs hI b2 hst g'0 g'1 n'
      go_wp2
      exact ⟨rfl, _, rfl, HF.out, HI.out, HS.out⟩
    · refine Owes.mk _ rfl rfl (fun _ _ h => by cases h) fun u m w' hm hI hR => ⟨⟨#[undef, undef, undef, undef, undef, undef, undef, undef, undef, undef, undef, undef, undef, undef, undef, undef, undef, undef, undef, undef, undef, u 1, undef, u 3, undef, undef, undef, undef, undef, undef, undef, undef, undef, undef, undef, undef, undef, undef, undef, undef, undef, undef, undef, undef, undef], []⟩, rfl, fun d hd => by cases hd; exact (by decide : 24 < 45), ?_⟩
      obtain ⟨fqa0, ga0⟩ := hR 1 (by decide)
      obtain ⟨va10, va11, fqa10, fqa11, ea1, ga10, ga11⟩ := hR 3 (by decide)
      rw [ea1]
      clear ea1
      clear hR
      go_wp2_with fail
      refine (sReqSlave_any _ x0 fqa0 x1 _ _ fqa10 fqa11 _ ga0 ga10 ga11).mono ?_
      rintro e w2 ⟨rfl, b2⟩
      have hs := facts_stable hst (b2.chg [])
      have HF := Lib.hid (show (FEq (.int .i64 (reqSlave x0 x1))) _ w2 from rfl)
      have HS := Lib.hid hs
      have HI := Lib.hid (hI.trans (b2.mono hI.size))
      clear hs hI b2 hst ga0 ga10 ga11
      go_wp2
      exact ⟨rfl, _, rfl, HF.out, HI.out, HS.out⟩
    · refine Owes.mk _ rfl rfl (fun _ _ h => by cases h) fun u m w' hm hI hR => ⟨⟨#[undef, undef, undef, undef, undef, undef, undef, undef, undef, undef, undef, undef, undef, undef, undef, undef, undef, undef, undef, undef, undef, undef, undef, undef, u 4, undef, undef, undef, undef, undef, undef, undef, undef, undef, undef, undef, undef, undef, undef, undef, undef, undef, undef, undef, undef], []⟩, rfl, fun d hd => by cases hd; exact (by decide : 6 < 45), ?_⟩
      have HI := Lib.hid hI
      have HX := Lib.hid (hR 4 (by decide))
      clear hI hR hst
      go_wp2
      exact ⟨rfl, _, rfl, HX.out, HI.out, fun _ _ h => h⟩
  case hend =>
    intro u w' hI hR
    simp only [setAll, List.set_cons_zero, List.set_cons_succ]
    have e0 : u 0 = _ := hR 0 (by decide)
    obtain ⟨fr1, gr1⟩ := hR 1 (by decide)
    have e2 : u 2 = _ := hR 2 (by decide)
    obtain ⟨vr3_0, vr3_1, fr3_0, fr3_1, e3, gr3_0, gr3_1⟩ := hR 3 (by decide)
    have e4 : u 4 = _ := hR 4 (by decide)
    have e5 : u 5 = _ := hR 5 (by decide)
    have HE := Lib.hid hI
    clear hR hI hst gr1 gr3_0 gr3_1
    simp only [Nat.zero_add, Nat.reduceAdd]
    rw [e0, e2, e3, e4, e5]
    clear e0 e2 e3 e4 e5
    have b : Below w2.heap.size w2 w' := HE.out
    obtain ⟨w3, hw⟩ : ∃ W, W = w' := ⟨_, rfl⟩
    rw [← hw] at b ⊢
    clear hw HE
    replace A0 := Lib.hid (SlR.below mrR_fits A0.out b)
    replace A1_0 := Lib.hid (SlR.below intR_fits A1_0.out b)
    replace A1_1 := Lib.hid (SlR.below intR_fits A1_1.out b)
    replace P1_0 := keep_cell b P1_0
    replace P1_1 := keep_cell b P1_1
    replace P1_2 := keep_cell b P1_2
    replace P1_3 := keep_cell b P1_3
    replace P1_4 := keep_cell b P1_4
    replace P1_5 := keep_cell b P1_5
    replace P1_6 := keep_cell b P1_6
    replace B := Lib.hid (B.out.trans (b.mono B.out.size))
    clear b
    go_wp2_with fail
    refine (to_mrs _ x0 fp0 SM0.out _ A0.out).mono ?_
    rintro e w4 ⟨X0v0, X0f0, rfl, X0g0, n, b⟩
    replace A0 := Lib.hid (SlR.below mrR_fits A0.out b)
    replace A1_0 := Lib.hid (SlR.below intR_fits A1_0.out b)
    replace A1_1 := Lib.hid (SlR.below intR_fits A1_1.out b)
    replace P1_0 := keep_cell b P1_0
    replace P1_1 := keep_cell b P1_1
    replace P1_2 := keep_cell b P1_2
    replace P1_3 := keep_cell b P1_3
    replace P1_4 := keep_cell b P1_4
    replace P1_5 := keep_cell b P1_5
    replace P1_6 := keep_cell b P1_6
    replace B := Lib.hid (B.out.trans (b.mono B.out.size))
    obtain ⟨X0a0, X0l0, X0k0, rfl⟩ := X0g0.form
    have X00 := Lib.hid X0g0
    clear n b X0g0
    go_wp2_with fail
    refine (to_Req x1 _ _ fp1_0 fp1_1 SM1.out _ A1_0.out A1_1.out).mono ?_
    rintro e w5 ⟨X1v0, X1f0, X1v1, X1f1, rfl, X1g0, X1g1, n, b⟩
    replace A0 := Lib.hid (SlR.below mrR_fits A0.out b)
    replace A1_0 := Lib.hid (SlR.below intR_fits A1_0.out b)
    replace A1_1 := Lib.hid (SlR.below intR_fits A1_1.out b)
    replace P1_0 := keep_cell b P1_0
    replace P1_1 := keep_cell b P1_1
    replace P1_2 := keep_cell b P1_2
    replace P1_3 := keep_cell b P1_3
    replace P1_4 := keep_cell b P1_4
    replace P1_5 := keep_cell b P1_5
    replace P1_6 := keep_cell b P1_6
    replace X00 := Lib.hid (SlR.below mrR_fits X00.out b)
    replace B := Lib.hid (B.out.trans (b.mono B.out.size))
    obtain ⟨X1a0, X1l0, X1k0, rfl⟩ := X1g0.form
    obtain ⟨X1a1, X1l1, X1k1, rfl⟩ := X1g1.form
    have X10 := Lib.hid X1g0
    have X11 := Lib.hid X1g1
    clear n b X1g0 X1g1
    have ba := below_alloc w5 (.cells #[.int .i64 x1.id, .int .i64 x1.kind, .int .i64 x1.addr, .int .i64 x1.many, .bool x1.wrap, .slice X1a0 X1l0 X1k0, .slice X1a1 X1l1 X1k1] 62)
    replace A0 := Lib.hid (SlR.below mrR_fits A0.out ba)
    replace A1_0 := Lib.hid (SlR.below intR_fits A1_0.out ba)
    replace A1_1 := Lib.hid (SlR.below intR_fits A1_1.out ba)
    replace P1_0 := keep_cell ba P1_0
    replace P1_1 := keep_cell ba P1_1
    replace P1_2 := keep_cell ba P1_2
    replace P1_3 := keep_cell ba P1_3
    replace P1_4 := keep_cell ba P1_4
    replace P1_5 := keep_cell ba P1_5
    replace P1_6 := keep_cell ba P1_6
    replace X00 := Lib.hid (SlR.below mrR_fits X00.out ba)
    replace X10 := Lib.hid (SlR.below intR_fits X10.out ba)
    replace X11 := Lib.hid (SlR.below intR_fits X11.out ba)
    replace B := Lib.hid (B.out.trans (ba.mono B.out.size))
    have Q1_0 := alloc1_new w5 #[.int .i64 x1.id, .int .i64 x1.kind, .int .i64 x1.addr, .int .i64 x1.many, .bool x1.wrap, .slice X1a0 X1l0 X1k0, .slice X1a1 X1l1 X1k1] 62 0 rfl
    have Q1_1 := alloc1_new w5 #[.int .i64 x1.id, .int .i64 x1.kind, .int .i64 x1.addr, .int .i64 x1.many, .bool x1.wrap, .slice X1a0 X1l0 X1k0, .slice X1a1 X1l1 X1k1] 62 1 rfl
    have Q1_2 := alloc1_new w5 #[.int .i64 x1.id, .int .i64 x1.kind, .int .i64 x1.addr, .int .i64 x1.many, .bool x1.wrap, .slice X1a0 X1l0 X1k0, .slice X1a1 X1l1 X1k1] 62 2 rfl
    have Q1_3 := alloc1_new w5 #[.int .i64 x1.id, .int .i64 x1.kind, .int .i64 x1.addr, .int .i64 x1.many, .bool x1.wrap, .slice X1a0 X1l0 X1k0, .slice X1a1 X1l1 X1k1] 62 3 rfl
    have Q1_4 := alloc1_new w5 #[.int .i64 x1.id, .int .i64 x1.kind, .int .i64 x1.addr, .int .i64 x1.many, .bool x1.wrap, .slice X1a0 X1l0 X1k0, .slice X1a1 X1l1 X1k1] 62 4 rfl
    have Q1_5 := alloc1_new w5 #[.int .i64 x1.id, .int .i64 x1.kind, .int .i64 x1.addr, .int .i64 x1.many, .bool x1.wrap, .slice X1a0 X1l0 X1k0, .slice X1a1 X1l1 X1k1] 62 5 rfl
    have Q1_6 := alloc1_new w5 #[.int .i64 x1.id, .int .i64 x1.kind, .int .i64 x1.addr, .int .i64 x1.many, .bool x1.wrap, .slice X1a0 X1l0 X1k0, .slice X1a1 X1l1 X1k1] 62 6 rfl
    clear ba
    have zb1 := block_of_cell P1_0
    go_wp2_with fail
    refine (iReqSlave_any _ x0 X0f0 x1 _ _ X1f0 X1f1 _ X00.out X10.out X11.out).mono ?_
    rintro e w6 ⟨rfl, b⟩
    replace A0 := Lib.hid (SlR.below mrR_fits A0.out b)
    replace A1_0 := Lib.hid (SlR.below intR_fits A1_0.out b)
    replace A1_1 := Lib.hid (SlR.below intR_fits A1_1.out b)
    replace P1_0 := keep_cell b P1_0
    replace P1_1 := keep_cell b P1_1
    replace P1_2 := keep_cell b P1_2
    replace P1_3 := keep_cell b P1_3
    replace P1_4 := keep_cell b P1_4
    replace P1_5 := keep_cell b P1_5
    replace P1_6 := keep_cell b P1_6
    replace X00 := Lib.hid (SlR.below mrR_fits X00.out b)
    replace X10 := Lib.hid (SlR.below intR_fits X10.out b)
    replace X11 := Lib.hid (SlR.below intR_fits X11.out b)
    replace Q1_0 := keep_cell b Q1_0
    replace Q1_1 := keep_cell b Q1_1
    replace Q1_2 := keep_cell b Q1_2
    replace Q1_3 := keep_cell b Q1_3
    replace Q1_4 := keep_cell b Q1_4
    replace Q1_5 := keep_cell b Q1_5
    replace Q1_6 := keep_cell b Q1_6
    replace B := Lib.hid (B.out.trans (b.mono B.out.size))
    clear b
    go_wp2_with fail
    refine (to_mrs _ x0 fp0 SM0.out _ A0.out).mono ?_
    rintro e w7 ⟨Z0v0, Z0f0, rfl, Z0g0, n, b⟩
    replace A0 := Lib.hid (SlR.below mrR_fits A0.out b)
    replace A1_0 := Lib.hid (SlR.below intR_fits A1_0.out b)
    replace A1_1 := Lib.hid (SlR.below intR_fits A1_1.out b)
    replace P1_0 := keep_cell b P1_0
    replace P1_1 := keep_cell b P1_1
    replace P1_2 := keep_cell b P1_2
    replace P1_3 := keep_cell b P1_3
    replace P1_4 := keep_cell b P1_4
    replace P1_5 := keep_cell b P1_5
    replace P1_6 := keep_cell b P1_6
    replace X00 := Lib.hid (SlR.below mrR_fits X00.out b)
    replace X10 := Lib.hid (SlR.below intR_fits X10.out b)
    replace X11 := Lib.hid (SlR.below intR_fits X11.out b)
    replace Q1_0 := keep_cell b Q1_0
    replace Q1_1 := keep_cell b Q1_1
    replace Q1_2 := keep_cell b Q1_2
    replace Q1_3 := keep_cell b Q1_3
    replace Q1_4 := keep_cell b Q1_4
    replace Q1_5 := keep_cell b Q1_5
    replace Q1_6 := keep_cell b Q1_6
    replace B := Lib.hid (B.out.trans (b.mono B.out.size))
    obtain ⟨Z0a0, Z0l0, Z0k0, rfl⟩ := Z0g0.form
    have Z00 := Lib.hid Z0g0
    clear n b Z0g0
    go_wp2_with fail
    refine (eq_mrs _ _ x0 x0 X0f0 Z0f0 _ X00.out Z00.out).mono ?_
    rw [decide_eq_true rfl]
    rintro e w8 ⟨rfl, b⟩
    replace A0 := Lib.hid (SlR.below mrR_fits A0.out b)
    replace A1_0 := Lib.hid (SlR.below intR_fits A1_0.out b)
    replace A1_1 := Lib.hid (SlR.below intR_fits A1_1.out b)
    replace P1_0 := keep_cell b P1_0
    replace P1_1 := keep_cell b P1_1
    replace P1_2 := keep_cell b P1_2
    replace P1_3 := keep_cell b P1_3
    replace P1_4 := keep_cell b P1_4
    replace P1_5 := keep_cell b P1_5
    replace P1_6 := keep_cell b P1_6
    replace X00 := Lib.hid (SlR.below mrR_fits X00.out b)
    replace X10 := Lib.hid (SlR.below intR_fits X10.out b)
    replace X11 := Lib.hid (SlR.below intR_fits X11.out b)
    replace Q1_0 := keep_cell b Q1_0
    replace Q1_1 := keep_cell b Q1_1
    replace Q1_2 := keep_cell b Q1_2
    replace Q1_3 := keep_cell b Q1_3
    replace Q1_4 := keep_cell b Q1_4
    replace Q1_5 := keep_cell b Q1_5
    replace Q1_6 := keep_cell b Q1_6
    replace Z00 := Lib.hid (SlR.below mrR_fits Z00.out b)
    replace B := Lib.hid (B.out.trans (b.mono B.out.size))
    clear b
    go_wp2_with fail
    have hst : ∀ F, F ∈ [FEq (.agg #[.int .i64 x1.id, .int .i64 x1.kind, .int .i64 x1.addr, .int .i64 x1.many, .bool x1.wrap, .slice X1a0 X1l0 X1k0, .slice X1a1 X1l1 X1k1]), FEq (.agg #[.int .i64 x1.id, .int .i64 x1.kind, .int .i64 x1.addr, .int .i64 x1.many, .bool x1.wrap, .slice al1_0 ln1_0 kn1_0, .slice al1_1 ln1_1 kn1_1]), FTo_Req x1, FEq (.bool true), FEq (.bool false)] → Stable [] F := by
      simp only [List.forall_mem_cons]
      exact ⟨stEq _ _, stEq _ _, stTo_Req _, stEq _ _, stEq _ _, fun _ h => by simp at h⟩
    refine wp_region_rule (by kernel_rfl) (fun i => ([[], [], [1], [0, 1, 2], [0, 1, 2, 3]] : List (List Nat)).getD i []) (facts [FEq (.agg #[.int .i64 x1.id, .int .i64 x1.kind, .int .i64 x1.addr, .int .i64 x1.many, .bool x1.wrap, .slice X1a0 X1l0 X1k0, .slice X1a1 X1l1 X1k1]), FEq (.agg #[.int .i64 x1.id, .int .i64 x1.kind, .int .i64 x1.addr, .int .i64 x1.many, .bool x1.wrap, .slice al1_0 ln1_0 kn1_0, .slice al1_1 ln1_1 kn1_1]), FTo_Req x1, FEq (.bool true), FEq (.bool false)]) (fun _ w' => Below w8.heap.size w8 w') 45 5 [some 40, some 41, some 42, some 43, some 44] rfl rfl rfl (by kernel_rfl) ?h0 (all_lt (n := 5) ?hop) ?hend
    case h0 => exact (Below.refl _ _).drew
    case hop =>
      refine ⟨⟨⟨⟨⟨trivial, ?_⟩, ?_⟩, ?_⟩, ?_⟩, ?_⟩
      · refine Owes.mk _ rfl rfl (fun _ _ h => by cases h) fun u m w' hm hI hR => ⟨⟨#[undef, undef, undef, undef, undef, undef, undef, undef, .pointer (some ⟨w5.heap.size, 0, none⟩), undef, undef, undef, undef, undef, undef, undef, undef, undef, undef, undef, undef, undef, undef, undef, undef, undef, undef, undef, undef, undef, undef, undef, undef, undef, undef, undef, undef, undef, undef, undef, undef, undef, undef, undef, undef], []⟩, rfl, fun d hd => by cases hd; exact (by decide : 40 < 45), ?_⟩
        have k0 := keep_cell hI Q1_0
        have k1 := keep_cell hI Q1_1
        have k2 := keep_cell hI Q1_2
        have k3 := keep_cell hI Q1_3
        have k4 := keep_cell hI Q1_4
        have k5 := keep_cell hI Q1_5
        have k6 := keep_cell hI Q1_6
        have HI := Lib.hid hI
        clear hI hR hst
        go_wp2
        exact ⟨rfl, _, rfl, rfl, HI.out, fun _ _ h => h⟩
      · refine Owes.mk _ rfl rfl (fun _ _ h => by cases h) fun u m w' hm hI hR => ⟨⟨#[undef, undef, undef, .pointer (some ⟨w.heap.size, 0, none⟩), undef, undef, undef, undef, undef, undef, undef, undef, undef, undef, undef, undef, undef, undef, undef, undef, undef, undef, undef, undef, undef, undef, undef, undef, undef, undef, undef, undef, undef, undef, undef, undef, undef, undef, undef, undef, undef, undef, undef, undef, undef], []⟩, rfl, fun d hd => by cases hd; exact (by decide : 41 < 45), ?_⟩
        have k0 := keep_cell hI P1_0
        have k1 := keep_cell hI P1_1
        have k2 := keep_cell hI P1_2
        have k3 := keep_cell hI P1_3
        have k4 := keep_cell hI P1_4
        have k5 := keep_cell hI P1_5
        have k6 := keep_cell hI P1_6
        have HI := Lib.hid hI
        clear hI hR hst
        go_wp2
        exact ⟨rfl, _, rfl, rfl, HI.out, fun _ _ h => h⟩
      · refine Owes.mk _ rfl rfl (fun _ _ h => by cases h) fun u m w' hm hI hR => ⟨⟨#[undef, undef, undef, undef, undef, undef, undef, undef, undef, undef, undef, undef, undef, undef, undef, undef, undef, undef, undef, undef, undef, undef, undef, undef, undef, undef, undef, undef, undef, undef, undef, undef, undef, undef, undef, undef, undef, undef, undef, undef, undef, u 1, undef, undef, undef], []⟩, rfl, fun d hd => by cases hd; exact (by decide : 42 < 45), ?_⟩
        have ea0 : u 1 = _ := hR 1 (by decide)
        rw [ea0]
        clear ea0
        clear hR
        go_wp2_with fail
        refine (to_Req x1 _ _ fp1_0 fp1_1 SM1.out _ (A1_0.out.below intR_fits hI) (A1_1.out.below intR_fits hI)).mono ?_
        rintro e w2 ⟨v'0, fq0, v'1, fq1, rfl, g'0, g'1, n', b2⟩
        have hs := facts_stable hst (b2.chg [])
        have HF := Lib.hid (show (FTo_Req x1) _ w2 from ⟨v'0, v'1, fq0, fq1, rfl, g'0, g'1⟩)
        have HS := Lib.hid hs
        have HI := Lib.hid (hI.trans (b2.mono hI.size))
        clear hs hI b2 hst g'0 g'1 n'
        go_wp2
        exact ⟨rfl, _, rfl, HF.out, HI.out, HS.out⟩
      · refine Owes.mk _ rfl rfl (fun _ _ h => by cases h) fun u m w' hm hI hR => ⟨⟨#[undef, undef, undef, undef, undef, undef, undef, undef, undef, undef, undef, undef, undef, undef, undef, undef, undef, undef, undef, undef, undef, undef, undef, undef, undef, undef, undef, undef, undef, undef, undef, undef, undef, undef, undef, undef, undef, undef, undef, undef, u 0, undef, u 2, undef, undef], []⟩, rfl, fun d hd => by cases hd; exact (by decide : 43 < 45), ?_⟩
        have ea0 : u 0 = _ := hR 0 (by decide)
        obtain ⟨va10, va11, fqa10, fqa11, ea1, ga10, ga11⟩ := hR 2 (by decide)
        rw [ea0, ea1]
        clear ea0 ea1
        clear hR
        go_wp2_with fail
        refine (eq_Req x1 x1 _ _ _ _ X1f0 X1f1 fqa10 fqa11 _ (X10.out.below intR_fits hI) (X11.out.below intR_fits hI) ga10 ga11).mono ?_
        rw [decide_eq_true rfl]
        rintro e w2 ⟨rfl, b2⟩
        have hs := facts_stable hst (b2.chg [])
        have HF := Lib.hid (show (FEq (.bool true)) _ w2 from rfl)
        have HS := Lib.hid hs
        have HI := Lib.hid (hI.trans (b2.mono hI.size))
        clear hs hI b2 hst ga10 ga11
        go_wp2
        exact ⟨rfl, _, rfl, HF.out, HI.out, HS.out⟩
      · refine Owes.mk _ rfl rfl (fun _ _ h => by cases h) fun u m w' hm hI hR => ⟨⟨#[undef, undef, undef, undef, undef, undef, undef, undef, undef, undef, undef, undef, undef, undef, undef, undef, undef, undef, undef, undef, undef, undef, undef, undef, undef, undef, undef, undef, undef, undef, undef, undef, undef, undef, undef, undef, undef, undef, undef, undef, undef, undef, undef, u 3, undef], []⟩, rfl, fun d hd => by cases hd; exact (by decide : 44 < 45), ?_⟩
        have ea : u 3 = _ := hR 3 (by decide)
        rw [ea]
        clear ea
        have HI := Lib.hid hI
        clear hI hR hst
        go_wp2
        exact ⟨rfl, _, rfl, rfl, HI.out, fun _ _ h => h⟩
    case hend =>
      intro u w' hI hR
      simp only [setAll, List.set_cons_zero, List.set_cons_succ]
      have e0 : u 0 = _ := hR 0 (by decide)
      have e1 : u 1 = _ := hR 1 (by decide)
      obtain ⟨vr2_0, vr2_1, fr2_0, fr2_1, e2, gr2_0, gr2_1⟩ := hR 2 (by decide)
      have e3 : u 3 = _ := hR 3 (by decide)
      have e4 : u 4 = _ := hR 4 (by decide)
      have HE := Lib.hid hI
      clear hR hI hst gr2_0 gr2_1
      simp only [Nat.zero_add, Nat.reduceAdd]
      rw [e0, e1, e2, e3, e4]
      clear e0 e1 e2 e3 e4
      have b : Below w8.heap.size w8 w' := HE.out
      obtain ⟨w9, hw⟩ : ∃ W, W = w' := ⟨_, rfl⟩
      rw [← hw] at b ⊢
      clear hw HE
      replace A0 := Lib.hid (SlR.below mrR_fits A0.out b)
      replace A1_0 := Lib.hid (SlR.below intR_fits A1_0.out b)
      replace A1_1 := Lib.hid (SlR.below intR_fits A1_1.out b)
      replace P1_0 := keep_cell b P1_0
      replace P1_1 := keep_cell b P1_1
      replace P1_2 := keep_cell b P1_2
      replace P1_3 := keep_cell b P1_3
      replace P1_4 := keep_cell b P1_4
      replace P1_5 := keep_cell b P1_5
      replace P1_6 := keep_cell b P1_6
      replace X00 := Lib.hid (SlR.below mrR_fits X00.out b)
      replace X10 := Lib.hid (SlR.below intR_fits X10.out b)
      replace X11 := Lib.hid (SlR.below intR_fits X11.out b)
      replace Q1_0 := keep_cell b Q1_0
      replace Q1_1 := keep_cell b Q1_1
      replace Q1_2 := keep_cell b Q1_2
      replace Q1_3 := keep_cell b Q1_3
      replace Q1_4 := keep_cell b Q1_4
      replace Q1_5 := keep_cell b Q1_5
      replace Q1_6 := keep_cell b Q1_6
      replace Z00 := Lib.hid (SlR.below mrR_fits Z00.out b)
      replace B := Lib.hid (B.out.trans (b.mono B.out.size))
      clear b
      go_wp2
      go_ret
      exact ⟨rfl, B.out⟩


set_option maxRecDepth 100000 in
theorem lifted (os : Os) (started : os.Started) (H : Type) (enc : TypeId × Value → H) :
    ReturnsInHanded {} Try.checked os 12 .any (Rows.fnExactReqSlaveSpec.pre6 enc Try.prog Try.f12 Rows.fnExactReqSlaveRow.domain false) (Rows.fnExactReqSlaveSpec.post enc Try.prog Try.f12 false true false false) := by
  refine returnsInHanded_of_change (C := Try.checked) own started (by kernel_rfl) Try.func12
    (ChangeSpec.witness6 (enc := enc) (C := Try.checked) false ⟨#[], #[.slice none 0 0, .agg #[.int .i64 0, .int .i64 0, .int .i64 0, .int .i64 0, .bool false, .slice none 0 0, .slice none 0 0]], []⟩ 8 (by kernel_rfl) (by kernel_rfl) (by kernel_rfl) (by kernel_rfl)) ?_
  intro W base args ds gs before hval0 hW hcnd _
  have hval : ∀ (j : Nat) t v, Try.f12.params[j]? = some t → args[j]? = some v → Value.okWide Try.prog W .any base t v := hval0
  have hW' := hW
  obtain ⟨p, q, hA0, hV, rfl, hfz, hnd⟩ := hW
  have hA : DataW.TrodAll enc Try.prog W 0 (fun _ => true) true Try.f12.params.toList args.toList ds p := hA0
  rw [Try.params12] at hA hval
  obtain ⟨v0, vs0, d0, ds0, p0, q0, hargs, rfl, rfl, h0, r0⟩ := trodAll_cons hA
  obtain ⟨v1, vs1, d1, ds1, p1, q1, rfl, rfl, rfl, h1, r1⟩ := trodAll_cons r0
  obtain ⟨rfl, rfl, rfl⟩ := trodAll_nil r1
  obtain rfl : args = #[v0, v1] := by cases args; simp_all
  obtain ⟨rfl, rfl⟩ := trodVars_none hV
  clear hA0 hval0
  simp only [List.append_nil] at hW'
  have hlt0 : ∀ x ∈ p0, x.block < W.heap.size := fun x hx => by simpa using hW'.lt x (by simp [hx])
  have hk0 := h0
  obtain ⟨ad0, len0, cap0, rfl⟩ := okWide_slice Try.underlying72 (hval 0 72 v0 rfl rfl)
  obtain ⟨fuel0, hf0⟩ := h0
  obtain ⟨x0, fp0, y0, e0, g0⟩ := opens_mrs hf0
  obtain rfl : .slice ad0 len0 cap0 = y0 := by simpa [Value.cells] using e0
  have hlt1 : ∀ x ∈ p1, x.block < W.heap.size := fun x hx => by simpa using hW'.lt x (by simp [hx])
  have hk1 := h1
  obtain ⟨cs1, rfl, _⟩ := okWide_struct Try.underlying73 (hval 1 73 v1 rfl rfl)
  obtain ⟨fuel1, hf1⟩ := h1
  obtain ⟨x1, fp1, g1⟩ := opens_Req hf1
  replace g1 : reqR W x1 cs1.toList fp1 := g1
  refine (walk (.slice ad0 len0 cap0) x0 fp0 cs1 x1 fp1 W g0 g1).mono fun e W' ⟨he, hb⟩ => ?_
  subst he
  exact ⟨_, rfl, _, _, _, [], _, [], hW', (trodAll_cons_mk (shut_bool Try.underlying4 _) trodAll_mk0), (trodAll_cons_mk (Below.trod laidOut (by kernel_rfl) (of_decide_eq_true (by kernel_rfl)) hk0 hb hlt0) (trodAll_cons_mk (Below.trod laidOut (by kernel_rfl) (of_decide_eq_true (by kernel_rfl)) hk1 hb hlt1) trodAll_mk0)), rfl, hb.frame _, fun h => by cases h⟩

theorem over : Rows.fnExactReqSlaveRow.holds Try.pinned (OpenSpec.ofChange Rows.fnExactReqSlaveSpec) :=
  OpenClaim.holds_of_wide 12 Try.f12 rfl rfl rfl rfl rfl rfl rfl ⟨rfl, rfl, rfl, rfl, rfl⟩ rfl rfl rfl rfl rfl (by kernel_rfl) Try.func12 (by kernel_rfl)
    (of_decide_eq_true (by kernel_rfl)) (by unfold Func.isWrapper; first | (rw [if_pos (by decide +kernel)]; kernel_rfl) | (rw [if_neg (by decide +kernel)]; exact ⟨rfl, rfl⟩))
    (fun os started H enc _ => lifted os started H enc)

theorem proved : Rows.FnExactReqSlaveSaid :=
  over
#print axioms proved
end Go.Proofs.Ytjapdkjfnmjicaa.fnExactReqSlave
