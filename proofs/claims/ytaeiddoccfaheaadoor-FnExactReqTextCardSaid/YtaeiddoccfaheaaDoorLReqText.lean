/-
  Proved: the card of the Go function laws.FnExactReqText: it returns true for all arguments, and the arguments read afterwards as before: the program's ReqText answers as the reference's.
  Conditions: none beyond the card's own (its listed variables start as the program's text lays them).
-/
import Derived.Test.YtaeiddoccfaheaaDoorLift
import Derived.Test.YtaeiddoccfaheaaDoorCardF
import Derived.Test.YtaeiddoccfaheaaDoorReqText2
import Derived.Test.YtaeiddoccfaheaaDoorReq
import Derived.Test.YtaeiddoccfaheaaDoorFacts
import Derived.Test.YtaeiddoccfaheaaDoorCards
import Derived.Test.YtaeiddoccfaheaaDoorTie
import Derived.OpenVars
import Derived.SevenTiedAt
namespace Go.Proofs.YtaeiddoccfaheaaDoor.fnExactReqText
set_option linter.unusedVariables false
set_option linter.unusedSimpArgs false
open Go.ChangeShapes Go.WideShapes Go.ChangeAt Go.RowKit

def FTo_Req (x : Req) : Fact := fun v w => ∃ (v'0 : Value) (v'1 : Value) (fq0 : List Nat) (fq1 : List Nat), v = .agg #[.int .i64 x.id, .int .i64 x.kind, .int .i64 x.addr, .int .i64 x.many, .bool x.wrap, v'0, v'1] ∧ SlR 1 intR w x.data v'0 fq0 ∧ SlR 1 intR w x.lanes v'1 fq1
theorem stTo_Req (x : Req) : Stable [] (FTo_Req x) := fun _ _ _ ⟨v0, v1, p0, p1, e, h0, h1⟩ hc => ⟨v0, v1, p0, p1, e, h0.chg intR_fits hc (fun _ _ => by simp), h1.chg intR_fits hc (fun _ _ => by simp)⟩

set_option maxRecDepth 100000 in
set_option maxHeartbeats 6400000 in
theorem walk (cs0 : Array Value) (x0 : Req) (fp0 : List Nat) (w : World) (h0 : reqR w x0 cs0.toList fp0) (hp : Pow w) (hw : Words 1 reqWords w) :
    Calls Tryd.prog 4 #[.agg cs0] w fun e w' => e = .returned (.bool true) ∧ Below w.heap.size w w' := by
  obtain ⟨cs0⟩ := cs0
  obtain ⟨v0_0, v0_1, fp0_0, fp0_1, e, _, g0_0, g0_1⟩ := h0
  obtain ⟨al0_0, ln0_0, kn0_0, rfl⟩ := g0_0.form
  obtain ⟨al0_1, ln0_1, kn0_1, rfl⟩ := g0_1.form
  obtain rfl : cs0 = [.int .i64 x0.id, .int .i64 x0.kind, .int .i64 x0.addr, .int .i64 x0.many, .bool x0.wrap, .slice al0_0 ln0_0 kn0_0, .slice al0_1 ln0_1 kn0_1] := e
  have hb : Below w.heap.size w (w.alloc (.cells #[.int .i64 x0.id, .int .i64 x0.kind, .int .i64 x0.addr, .int .i64 x0.many, .bool x0.wrap, .slice al0_0 ln0_0 kn0_0, .slice al0_1 ln0_1 kn0_1] 32)) := ((Below.refl _ _).alloc (Nat.le_refl _) _)
  have A0_0 := Lib.hid (SlR.below intR_fits g0_0 hb)
  have A0_1 := Lib.hid (SlR.below intR_fits g0_1 hb)
  clear g0_0 g0_1
  have B := Lib.hid hb
  clear hb
  go_enter Tryd.func4, Tryd.ntmps4
  go_wp2_with fail
  refine (sz_Req x0 _ _ fp0_0 fp0_1 1048576 (by omega) (by omega) _ A0_0.out A0_1.out).mono ?_
  rintro e w1 ⟨z0, rfl, le0, sm0, b⟩
  replace A0_0 := Lib.hid (SlR.below intR_fits A0_0.out b)
  replace A0_1 := Lib.hid (SlR.below intR_fits A0_1.out b)
  replace B := Lib.hid (B.out.trans (b.mono B.out.size))
  have P0_0 : w1.cell? ⟨w.heap.size, 0, none⟩ = some (.int .i64 x0.id) := keep_cell b (alloc1_new w _ _ 0 rfl)
  have P0_1 : w1.cell? ⟨w.heap.size, 1, none⟩ = some (.int .i64 x0.kind) := keep_cell b (alloc1_new w _ _ 1 rfl)
  have P0_2 : w1.cell? ⟨w.heap.size, 2, none⟩ = some (.int .i64 x0.addr) := keep_cell b (alloc1_new w _ _ 2 rfl)
  have P0_3 : w1.cell? ⟨w.heap.size, 3, none⟩ = some (.int .i64 x0.many) := keep_cell b (alloc1_new w _ _ 3 rfl)
  have P0_4 : w1.cell? ⟨w.heap.size, 4, none⟩ = some (.bool x0.wrap) := keep_cell b (alloc1_new w _ _ 4 rfl)
  have P0_5 : w1.cell? ⟨w.heap.size, 5, none⟩ = some (.slice al0_0 ln0_0 kn0_0) := keep_cell b (alloc1_new w _ _ 5 rfl)
  have P0_6 : w1.cell? ⟨w.heap.size, 6, none⟩ = some (.slice al0_1 ln0_1 kn0_1) := keep_cell b (alloc1_new w _ _ 6 rfl)
  clear b
  have S0 := Lib.hid sm0
  clear sm0
  cases hz0 : decide (z0 < 0)
  case' true =>
    go_wp2
    go_ret
    exact ⟨rfl, B.out⟩
  have pz0 : 0 ≤ z0 := by have := of_decide_eq_false hz0; omega
  have SM0 := Lib.hid (S0.out pz0)
  clear S0
  go_wp2_with fail
  refine (to_Req x0 _ _ fp0_0 fp0_1 SM0.out _ A0_0.out A0_1.out).mono ?_
  rintro e w2 ⟨S0v0, S0f0, S0v1, S0f1, rfl, S0g0, S0g1, n, b⟩
  replace A0_0 := Lib.hid (SlR.below intR_fits A0_0.out b)
  replace A0_1 := Lib.hid (SlR.below intR_fits A0_1.out b)
  replace P0_0 := keep_cell b P0_0
  replace P0_1 := keep_cell b P0_1
  replace P0_2 := keep_cell b P0_2
  replace P0_3 := keep_cell b P0_3
  replace P0_4 := keep_cell b P0_4
  replace P0_5 := keep_cell b P0_5
  replace P0_6 := keep_cell b P0_6
  replace B := Lib.hid (B.out.trans (b.mono B.out.size))
  obtain ⟨S0a0, S0l0, S0k0, rfl⟩ := S0g0.form
  obtain ⟨S0a1, S0l1, S0k1, rfl⟩ := S0g1.form
  have S00 := Lib.hid S0g0
  have S01 := Lib.hid S0g1
  clear n b S0g0 S0g1
  go_wp2_with fail
  refine (sReqText_any x0 _ _ S0f0 S0f1 _ S00.out S01.out).mono ?_
  rintro e w3 ⟨rfl, b⟩
  replace A0_0 := Lib.hid (SlR.below intR_fits A0_0.out b)
  replace A0_1 := Lib.hid (SlR.below intR_fits A0_1.out b)
  replace P0_0 := keep_cell b P0_0
  replace P0_1 := keep_cell b P0_1
  replace P0_2 := keep_cell b P0_2
  replace P0_3 := keep_cell b P0_3
  replace P0_4 := keep_cell b P0_4
  replace P0_5 := keep_cell b P0_5
  replace P0_6 := keep_cell b P0_6
  replace S00 := Lib.hid (SlR.below intR_fits S00.out b)
  replace S01 := Lib.hid (SlR.below intR_fits S01.out b)
  replace B := Lib.hid (B.out.trans (b.mono B.out.size))
  clear b
  clear S00 S01
  go_wp2_with fail
  refine (to_Req x0 _ _ fp0_0 fp0_1 SM0.out _ A0_0.out A0_1.out).mono ?_
  rintro e w4 ⟨X0v0, X0f0, X0v1, X0f1, rfl, X0g0, X0g1, n, b⟩
  replace A0_0 := Lib.hid (SlR.below intR_fits A0_0.out b)
  replace A0_1 := Lib.hid (SlR.below intR_fits A0_1.out b)
  replace P0_0 := keep_cell b P0_0
  replace P0_1 := keep_cell b P0_1
  replace P0_2 := keep_cell b P0_2
  replace P0_3 := keep_cell b P0_3
  replace P0_4 := keep_cell b P0_4
  replace P0_5 := keep_cell b P0_5
  replace P0_6 := keep_cell b P0_6
  replace B := Lib.hid (B.out.trans (b.mono B.out.size))
  obtain ⟨X0a0, X0l0, X0k0, rfl⟩ := X0g0.form
  obtain ⟨X0a1, X0l1, X0k1, rfl⟩ := X0g1.form
  have X00 := Lib.hid X0g0
  have X01 := Lib.hid X0g1
  clear n b X0g0 X0g1
  have ba := below_alloc w4 (.cells #[.int .i64 x0.id, .int .i64 x0.kind, .int .i64 x0.addr, .int .i64 x0.many, .bool x0.wrap, .slice X0a0 X0l0 X0k0, .slice X0a1 X0l1 X0k1] 35)
  replace A0_0 := Lib.hid (SlR.below intR_fits A0_0.out ba)
  replace A0_1 := Lib.hid (SlR.below intR_fits A0_1.out ba)
  replace P0_0 := keep_cell ba P0_0
  replace P0_1 := keep_cell ba P0_1
  replace P0_2 := keep_cell ba P0_2
  replace P0_3 := keep_cell ba P0_3
  replace P0_4 := keep_cell ba P0_4
  replace P0_5 := keep_cell ba P0_5
  replace P0_6 := keep_cell ba P0_6
  replace X00 := Lib.hid (SlR.below intR_fits X00.out ba)
  replace X01 := Lib.hid (SlR.below intR_fits X01.out ba)
  replace B := Lib.hid (B.out.trans (ba.mono B.out.size))
  have Q0_0 := alloc1_new w4 #[.int .i64 x0.id, .int .i64 x0.kind, .int .i64 x0.addr, .int .i64 x0.many, .bool x0.wrap, .slice X0a0 X0l0 X0k0, .slice X0a1 X0l1 X0k1] 35 0 rfl
  have Q0_1 := alloc1_new w4 #[.int .i64 x0.id, .int .i64 x0.kind, .int .i64 x0.addr, .int .i64 x0.many, .bool x0.wrap, .slice X0a0 X0l0 X0k0, .slice X0a1 X0l1 X0k1] 35 1 rfl
  have Q0_2 := alloc1_new w4 #[.int .i64 x0.id, .int .i64 x0.kind, .int .i64 x0.addr, .int .i64 x0.many, .bool x0.wrap, .slice X0a0 X0l0 X0k0, .slice X0a1 X0l1 X0k1] 35 2 rfl
  have Q0_3 := alloc1_new w4 #[.int .i64 x0.id, .int .i64 x0.kind, .int .i64 x0.addr, .int .i64 x0.many, .bool x0.wrap, .slice X0a0 X0l0 X0k0, .slice X0a1 X0l1 X0k1] 35 3 rfl
  have Q0_4 := alloc1_new w4 #[.int .i64 x0.id, .int .i64 x0.kind, .int .i64 x0.addr, .int .i64 x0.many, .bool x0.wrap, .slice X0a0 X0l0 X0k0, .slice X0a1 X0l1 X0k1] 35 4 rfl
  have Q0_5 := alloc1_new w4 #[.int .i64 x0.id, .int .i64 x0.kind, .int .i64 x0.addr, .int .i64 x0.many, .bool x0.wrap, .slice X0a0 X0l0 X0k0, .slice X0a1 X0l1 X0k1] 35 5 rfl
  have Q0_6 := alloc1_new w4 #[.int .i64 x0.id, .int .i64 x0.kind, .int .i64 x0.addr, .int .i64 x0.many, .bool x0.wrap, .slice X0a0 X0l0 X0k0, .slice X0a1 X0l1 X0k1] 35 6 rfl
  clear ba
  have zb0 := block_of_cell P0_0
  go_wp2_with fail
  refine (iReqText_any x0 _ _ X0f0 X0f1 _ X00.out X01.out (hp.below B.out) (hw.below B.out)).mono ?_
  rintro e w5 ⟨rfl, b⟩
  replace A0_0 := Lib.hid (SlR.below intR_fits A0_0.out b)
  replace A0_1 := Lib.hid (SlR.below intR_fits A0_1.out b)
  replace P0_0 := keep_cell b P0_0
  replace P0_1 := keep_cell b P0_1
  replace P0_2 := keep_cell b P0_2
  replace P0_3 := keep_cell b P0_3
  replace P0_4 := keep_cell b P0_4
  replace P0_5 := keep_cell b P0_5
  replace P0_6 := keep_cell b P0_6
  replace X00 := Lib.hid (SlR.below intR_fits X00.out b)
  replace X01 := Lib.hid (SlR.below intR_fits X01.out b)
  replace Q0_0 := keep_cell b Q0_0
  replace Q0_1 := keep_cell b Q0_1
  replace Q0_2 := keep_cell b Q0_2
  replace Q0_3 := keep_cell b Q0_3
  replace Q0_4 := keep_cell b Q0_4
  replace Q0_5 := keep_cell b Q0_5
  replace Q0_6 := keep_cell b Q0_6
  replace B := Lib.hid (B.out.trans (b.mono B.out.size))
  clear b
  go_wp2_with fail
  have hst : ∀ F, F ∈ [FEq (.agg #[.int .i64 x0.id, .int .i64 x0.kind, .int .i64 x0.addr, .int .i64 x0.many, .bool x0.wrap, .slice X0a0 X0l0 X0k0, .slice X0a1 X0l1 X0k1]), FEq (.agg #[.int .i64 x0.id, .int .i64 x0.kind, .int .i64 x0.addr, .int .i64 x0.many, .bool x0.wrap, .slice al0_0 ln0_0 kn0_0, .slice al0_1 ln0_1 kn0_1]), FTo_Req x0, FEq (.bool true), FEq (.bool false)] → Stable [] F := by
    simp only [List.forall_mem_cons]
    exact ⟨stEq _ _, stEq _ _, stTo_Req _, stEq _ _, stEq _ _, fun _ h => by simp at h⟩
  refine wp_region_rule (by kernel_rfl) (fun i => ([[], [], [1], [0, 1, 2], [0, 1, 2, 3]] : List (List Nat)).getD i []) (facts [FEq (.agg #[.int .i64 x0.id, .int .i64 x0.kind, .int .i64 x0.addr, .int .i64 x0.many, .bool x0.wrap, .slice X0a0 X0l0 X0k0, .slice X0a1 X0l1 X0k1]), FEq (.agg #[.int .i64 x0.id, .int .i64 x0.kind, .int .i64 x0.addr, .int .i64 x0.many, .bool x0.wrap, .slice al0_0 ln0_0 kn0_0, .slice al0_1 ln0_1 kn0_1]), FTo_Req x0, FEq (.bool true), FEq (.bool false)]) (fun _ w' => Below w5.heap.size w5 w') 27 5 [some 22, some 23, some 24, some 25, some 26] rfl rfl rfl (by kernel_rfl) ?h0 (all_lt (n := 5) ?hop) ?hend
  case h0 => exact (Below.refl _ _).drew
  case hop =>
    refine ⟨⟨⟨⟨⟨trivial, ?_⟩, ?_⟩, ?_⟩, ?_⟩, ?_⟩
    · refine Owes.mk _ rfl rfl (fun _ _ h => by cases h) fun u m w' hm hI hR => ⟨⟨#[undef, undef, undef, undef, undef, .pointer (some ⟨w4.heap.size, 0, none⟩), undef, undef, undef, undef, undef, undef, undef, undef, undef, undef, undef, undef, undef, undef, undef, undef, undef, undef, undef, undef, undef], []⟩, rfl, fun d hd => by cases hd; exact (by decide : 22 < 27), ?_⟩
      have k0 := keep_cell hI Q0_0
      have k1 := keep_cell hI Q0_1
      have k2 := keep_cell hI Q0_2
      have k3 := keep_cell hI Q0_3
      have k4 := keep_cell hI Q0_4
      have k5 := keep_cell hI Q0_5
      have k6 := keep_cell hI Q0_6
      have HI := Lib.hid hI
      clear hI hR hst
      go_wp2
      exact ⟨rfl, _, rfl, rfl, HI.out, fun _ _ h => h⟩
    · refine Owes.mk _ rfl rfl (fun _ _ h => by cases h) fun u m w' hm hI hR => ⟨⟨#[undef, .pointer (some ⟨w.heap.size, 0, none⟩), undef, undef, undef, undef, undef, undef, undef, undef, undef, undef, undef, undef, undef, undef, undef, undef, undef, undef, undef, undef, undef, undef, undef, undef, undef], []⟩, rfl, fun d hd => by cases hd; exact (by decide : 23 < 27), ?_⟩
      have k0 := keep_cell hI P0_0
      have k1 := keep_cell hI P0_1
      have k2 := keep_cell hI P0_2
      have k3 := keep_cell hI P0_3
      have k4 := keep_cell hI P0_4
      have k5 := keep_cell hI P0_5
      have k6 := keep_cell hI P0_6
      have HI := Lib.hid hI
      clear hI hR hst
      go_wp2
      exact ⟨rfl, _, rfl, rfl, HI.out, fun _ _ h => h⟩
    · refine Owes.mk _ rfl rfl (fun _ _ h => by cases h) fun u m w' hm hI hR => ⟨⟨#[undef, undef, undef, undef, undef, undef, undef, undef, undef, undef, undef, undef, undef, undef, undef, undef, undef, undef, undef, undef, undef, undef, undef, u 1, undef, undef, undef], []⟩, rfl, fun d hd => by cases hd; exact (by decide : 24 < 27), ?_⟩
      have ea0 : u 1 = _ := hR 1 (by decide)
      rw [ea0]
      clear ea0
      clear hR
      go_wp2_with fail
      refine (to_Req x0 _ _ fp0_0 fp0_1 SM0.out _ (A0_0.out.below intR_fits hI) (A0_1.out.below intR_fits hI)).mono ?_
      rintro e w2 ⟨v'0, fq0, v'1, fq1, rfl, g'0, g'1, n', b2⟩
      have hs := facts_stable hst (b2.chg [])
      have HF := Lib.hid (show (FTo_Req x0) _ w2 from ⟨v'0, v'1, fq0, fq1, rfl, g'0, g'1⟩)
      have HS := Lib.hid hs
      have HI := Lib.hid (hI.trans (b2.mono hI.size))
      clear hs hI b2 hst g'0 g'1 n'
      go_wp2
      exact ⟨rfl, _, rfl, HF.out, HI.out, HS.out⟩
    · refine Owes.mk _ rfl rfl (fun _ _ h => by cases h) fun u m w' hm hI hR => ⟨⟨#[undef, undef, undef, undef, undef, undef, undef, undef, undef, undef, undef, undef, undef, undef, undef, undef, undef, undef, undef, undef, undef, undef, u 0, undef, u 2, undef, undef], []⟩, rfl, fun d hd => by cases hd; exact (by decide : 25 < 27), ?_⟩
      have ea0 : u 0 = _ := hR 0 (by decide)
      obtain ⟨va10, va11, fqa10, fqa11, ea1, ga10, ga11⟩ := hR 2 (by decide)
      rw [ea0, ea1]
      clear ea0 ea1
      clear hR
      go_wp2_with fail
      refine (eq_Req x0 x0 _ _ _ _ X0f0 X0f1 fqa10 fqa11 _ (X00.out.below intR_fits hI) (X01.out.below intR_fits hI) ga10 ga11).mono ?_
      rw [decide_eq_true rfl]
      rintro e w2 ⟨rfl, b2⟩
      have hs := facts_stable hst (b2.chg [])
      have HF := Lib.hid (show (FEq (.bool true)) _ w2 from rfl)
      have HS := Lib.hid hs
      have HI := Lib.hid (hI.trans (b2.mono hI.size))
      clear hs hI b2 hst ga10 ga11
      go_wp2
      exact ⟨rfl, _, rfl, HF.out, HI.out, HS.out⟩
    · refine Owes.mk _ rfl rfl (fun _ _ h => by cases h) fun u m w' hm hI hR => ⟨⟨#[undef, undef, undef, undef, undef, undef, undef, undef, undef, undef, undef, undef, undef, undef, undef, undef, undef, undef, undef, undef, undef, undef, undef, undef, undef, u 3, undef], []⟩, rfl, fun d hd => by cases hd; exact (by decide : 26 < 27), ?_⟩
      have ea : u 3 = _ := hR 3 (by decide)
      rw [ea]
      clear ea
      have HI := Lib.hid hI
      clear hI hR hst
      go_wp2
      exact ⟨rfl, _, rfl, rfl, HI.out, fun _ _ h => h⟩
  case hend =>
    intro u w' hI hR
    simp only [setAll, List.set_cons_zero, List.set_cons_succ]
    have e0 : u 0 = _ := hR 0 (by decide)
    have e1 : u 1 = _ := hR 1 (by decide)
    obtain ⟨vr2_0, vr2_1, fr2_0, fr2_1, e2, gr2_0, gr2_1⟩ := hR 2 (by decide)
    have e3 : u 3 = _ := hR 3 (by decide)
    have e4 : u 4 = _ := hR 4 (by decide)
    have HE := Lib.hid hI
    clear hR hI hst gr2_0 gr2_1
    simp only [Nat.zero_add, Nat.reduceAdd]
    rw [e0, e1, e2, e3, e4]
    clear e0 e1 e2 e3 e4
    have b : Below w5.heap.size w5 w' := HE.out
    obtain ⟨w6, hw⟩ : ∃ W, W = w' := ⟨_, rfl⟩
    rw [← hw] at b ⊢
    clear hw HE
    replace A0_0 := Lib.hid (SlR.below intR_fits A0_0.out b)
    replace A0_1 := Lib.hid (SlR.below intR_fits A0_1.out b)
    replace P0_0 := keep_cell b P0_0
    replace P0_1 := keep_cell b P0_1
    replace P0_2 := keep_cell b P0_2
    replace P0_3 := keep_cell b P0_3
    replace P0_4 := keep_cell b P0_4
    replace P0_5 := keep_cell b P0_5
    replace P0_6 := keep_cell b P0_6
    replace X00 := Lib.hid (SlR.below intR_fits X00.out b)
    replace X01 := Lib.hid (SlR.below intR_fits X01.out b)
    replace Q0_0 := keep_cell b Q0_0
    replace Q0_1 := keep_cell b Q0_1
    replace Q0_2 := keep_cell b Q0_2
    replace Q0_3 := keep_cell b Q0_3
    replace Q0_4 := keep_cell b Q0_4
    replace Q0_5 := keep_cell b Q0_5
    replace Q0_6 := keep_cell b Q0_6
    replace B := Lib.hid (B.out.trans (b.mono B.out.size))
    clear b
    go_wp2
    go_ret
    exact ⟨rfl, B.out⟩


theorem hpow : Rows.fnExactReqTextRow.laid.filter (fun x => x.1 == "internal/strconv.uint64pow10") = [("internal/strconv.uint64pow10", Lib.tabData .u64 Lib.pow10Tab)] := by kernel_rfl
theorem hwords : Rows.fnExactReqTextRow.laid.filter (fun x => x.1 == "loop.example/crossyard/impl.reqWords") = [("loop.example/crossyard/impl.reqWords", wordsD reqWords)] := by kernel_rfl
theorem door_met (os : Os) (args : Array Value) : laidMetH Tryd.prog Rows.fnExactReqTextRow.laid ((World.doorLaid Tryd.prog 4000 os).forCall (fun _ _ => 0) ⟨#[], args, []⟩).memory :=
  laidMetH_of_parts3 (fuel := 8) (laidMet_of_run' 8 (by kernel_rfl) (by kernel_rfl)) (by kernel_rfl) (by kernel_rfl)
set_option maxRecDepth 100000 in
theorem lifted (os : Os) (started : os.Started) (H : Type) (enc : TypeId × Value → H) :
    ReturnsInHanded {} Tryd.checked os 4 .any (fun w args => (Rows.fnExactReqTextSpec.pre enc Tryd.prog Tryd.f4 [] false w args ∧ laidMetH Tryd.prog Rows.fnExactReqTextRow.laid w) ∧ sizedMet enc Tryd.prog Tryd.f4 (OpenSpec.ofChange Rows.fnExactReqTextSpec) false w args)
      (Rows.fnExactReqTextSpec.post enc Tryd.prog Tryd.f4 false true false false) := by
  refine returnsInHanded_of_change_and (C := Tryd.checked) (X := fun w _ => laidMetH Tryd.prog Rows.fnExactReqTextRow.laid w) (fun _ _ _ hh h => h.of_heap hh) own started (by kernel_rfl) Tryd.func4
    (ChangeSpec.witness_shaped (enc := enc) (C := Tryd.checked) (os := os) (X := fun w _ => laidMetH Tryd.prog Rows.fnExactReqTextRow.laid w) false (World.doorLaid Tryd.prog 4000 os) #[.agg #[.int .i64 0, .int .i64 0, .int .i64 0, .int .i64 0, .bool false, .slice none 0 0, .slice none 0 0]] 8 rfl (World.shaped_of_RefB (by kernel_rfl) (by kernel_rfl)) (by kernel_rfl) (by kernel_rfl) (by kernel_rfl) (door_met os _)) ?_
  intro W base args ds gs before hval0 hW _ _ hL _
  have hval : ∀ (j : Nat) t v, Tryd.f4.params[j]? = some t → args[j]? = some v → Value.okWide Tryd.prog W .any base t v := hval0
  have hW' := hW
  obtain ⟨p, q, hA0, hV, rfl, hfz, hnd⟩ := hW
  have hA : DataW.TrodAll enc Tryd.prog W 0 (fun _ => true) true Tryd.f4.params.toList args.toList ds p := hA0
  rw [Tryd.params4] at hA hval
  obtain ⟨v0, vs0, d0, ds0, p0, q0, hargs, rfl, rfl, h0, r0⟩ := trodAll_cons hA
  obtain ⟨rfl, rfl, rfl⟩ := trodAll_nil r0
  obtain rfl : args = #[v0] := by cases args; simp_all
  have hV0 := hV
  obtain ⟨_, _, _, _, _, _, rfl, _, _, _, _, _⟩ := trodVars_one hV0
  clear hA0 hval0
  have hlt0 : ∀ x ∈ p0, x.block < W.heap.size := fun x hx => by simpa using hW'.lt x (by simp [hx])
  have hk0 := h0
  obtain ⟨cs0, rfl, _⟩ := okWide_struct Tryd.underlying32 (hval 0 32 v0 rfl rfl)
  obtain ⟨fuel0, hf0⟩ := h0
  obtain ⟨x0, fp0, g0⟩ := opens_Req hf0
  replace g0 : reqR W x0 cs0.toList fp0 := g0
  refine (walk cs0 x0 fp0 W g0 (pow_of hpow hL) (words_of (by decide) (by kernel_rfl) (by kernel_rfl) hwords hL)).mono fun e W' ⟨he, hb⟩ => ?_
  subst he
  exact ⟨_, rfl, _, _, _, [], _, q, hW', (trodAll_cons_mk (shut_bool Tryd.underlying4 _) trodAll_mk0), (trodAll_cons_mk (Below.trod laidOut (by kernel_rfl) (of_decide_eq_true (by kernel_rfl)) hk0 hb hlt0) trodAll_mk0), hb.trodVars laidOut (by kernel_rfl) hV, hb.frame _, fun h => by cases h⟩

theorem over : Rows.fnExactReqTextRow.holds Tryd.pinned (OpenSpec.ofChange Rows.fnExactReqTextSpec) :=
  OpenClaim.holds_of_wide 4 Tryd.f4 rfl rfl rfl rfl rfl rfl rfl ⟨rfl, rfl, rfl, rfl, rfl⟩ rfl rfl rfl rfl rfl (by kernel_rfl) Tryd.func4 (by kernel_rfl)
    (of_decide_eq_true (by kernel_rfl)) (by unfold Func.isWrapper; first | (rw [if_pos (by decide +kernel)]; kernel_rfl) | (rw [if_neg (by decide +kernel)]; exact ⟨rfl, rfl⟩))
    (fun os started H enc _ => lifted os started H enc)

theorem proved : Rows.FnExactReqTextCardSaid :=
  Claim7.holds_tied_plain_at .later [] [.data,.data,.data,.widerDeep] true (true, "e417f15a72d73d6417c807500a0c54e876089ad537866bc54c52dba4e83b9c50") false
    over (fun _ h => by cases h) (by kernel_rfl) (fun _ h => by cases h) fnExactReqText_row_tie rfl ⟨rfl, rfl⟩ (by kernel_rfl) rfl
    (fun f fn hf hfn => by
      obtain rfl : f = 4 := Option.some.inj ((show Tryd.prog.funcNamed "loop.example/crossyard/laws.FnExactReqText" = some 4 by kernel_rfl).symm.trans hf) |>.symm
      obtain rfl : fn = Tryd.f4 := (Option.some.inj (Tryd.func4.symm.trans hfn)).symm
      exact ⟨by kernel_rfl, fun j t ht => by
        rw [Tryd.params4] at ht
        have hm : t ∈ [32] := by simpa using Array.mem_of_getElem? ht
        have hall : ([32].all fun u => !Tryd.prog.wantsStandIn u) = true := by kernel_rfl
        exact (show Tryd.prog.wantsStandIn t = false by simpa using List.all_eq_true.1 hall t hm)⟩)
    (by kernel_rfl)
#print axioms proved
end Go.Proofs.YtaeiddoccfaheaaDoor.fnExactReqText
