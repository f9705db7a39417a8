/-
  Proved: the Go function laws.FnExactBusApart returns true for all arguments, and the arguments read afterwards as before: the program's BusApart answers as the reference's.
  Conditions: none.
-/
import Derived.Test.YtmmojgopeaelcaaLift
import Derived.Test.YtmmojgopeaelcaaBApart2
import Derived.Test.YtmmojgopeaelcaaUniMap
import Derived.Test.YtmmojgopeaelcaaFacts
import Derived.Test.YtmmojgopeaelcaaAt
namespace Go.Proofs.Ytmmojgopeaelcaa.fnExactBusApart
set_option linter.unusedVariables false
set_option linter.unusedSimpArgs false
open Go.ChangeShapes Go.WideShapes Go.ChangeAt Go.RowKit

def FTo_Bus (x : Bus) : Fact := fun v w => ∃ (v'0 : Value) (v'1 : Value) (v'2 : Value) (fq0 : List Nat) (fq1 : List Nat) (fq2 : List Nat), v = .agg #[v'0, v'1, v'2] ∧ SlR 4 mrR w x.map v'0 fq0 ∧ SlR 1 intR w x.lat v'1 fq1 ∧ SlR 1 (slR 7 reqR) w x.progs v'2 fq2
theorem stTo_Bus (x : Bus) : Stable [] (FTo_Bus x) := fun _ _ _ ⟨v0, v1, v2, p0, p1, p2, e, h0, h1, h2⟩ hc => ⟨v0, v1, v2, p0, p1, p2, e, h0.chg mrR_fits hc (fun _ _ => by simp), h1.chg intR_fits hc (fun _ _ => by simp), h2.chg (slR_fits reqR_fits) hc (fun _ _ => by simp)⟩

set_option maxRecDepth 100000 in
set_option maxHeartbeats 6400000 in
theorem walk (cs0 : Array Value) (x0 : Bus) (fp0 : List Nat) (x1 : Int) (w : World) (h0 : busR w x0 cs0.toList fp0) :
    Calls Try.prog 3 #[.agg cs0, .int .i64 x1] w fun e w' => e = .returned (.bool true) ∧ Below w.heap.size w w' := by
  obtain ⟨cs0⟩ := cs0
  obtain ⟨v0_0, v0_1, v0_2, fp0_0, fp0_1, fp0_2, e, _, g0_0, g0_1, g0_2⟩ := h0
  obtain ⟨al0_0, ln0_0, kn0_0, rfl⟩ := g0_0.form
  obtain ⟨al0_1, ln0_1, kn0_1, rfl⟩ := g0_1.form
  obtain ⟨al0_2, ln0_2, kn0_2, rfl⟩ := g0_2.form
  obtain rfl : cs0 = [.slice al0_0 ln0_0 kn0_0, .slice al0_1 ln0_1 kn0_1, .slice al0_2 ln0_2 kn0_2] := e
  have hb : Below w.heap.size w (w.alloc (.cells #[.slice al0_0 ln0_0 kn0_0, .slice al0_1 ln0_1 kn0_1, .slice al0_2 ln0_2 kn0_2] 26)) := ((Below.refl _ _).alloc (Nat.le_refl _) _)
  have A0_0 := Lib.hid (SlR.below mrR_fits g0_0 hb)
  have A0_1 := Lib.hid (SlR.below intR_fits g0_1 hb)
  have A0_2 := Lib.hid (SlR.below (slR_fits reqR_fits) g0_2 hb)
  clear g0_0 g0_1 g0_2
  have B := Lib.hid hb
  clear hb
  go_enter Try.func3, Try.ntmps3
  go_wp2_with fail
  refine (sz_Bus x0 _ _ _ fp0_0 fp0_1 fp0_2 1048576 (by omega) (by omega) _ A0_0.out A0_1.out A0_2.out).mono ?_
  rintro e w1 ⟨z0, rfl, le0, sm0, b⟩
  replace A0_0 := Lib.hid (SlR.below mrR_fits A0_0.out b)
  replace A0_1 := Lib.hid (SlR.below intR_fits A0_1.out b)
  replace A0_2 := Lib.hid (SlR.below (slR_fits reqR_fits) A0_2.out b)
  replace B := Lib.hid (B.out.trans (b.mono B.out.size))
  have P0_0 : w1.cell? ⟨w.heap.size, 0, none⟩ = some (.slice al0_0 ln0_0 kn0_0) := keep_cell b (alloc1_new w _ _ 0 rfl)
  have P0_1 : w1.cell? ⟨w.heap.size, 1, none⟩ = some (.slice al0_1 ln0_1 kn0_1) := keep_cell b (alloc1_new w _ _ 1 rfl)
  have P0_2 : w1.cell? ⟨w.heap.size, 2, none⟩ = some (.slice al0_2 ln0_2 kn0_2) := keep_cell b (alloc1_new w _ _ 2 rfl)
  clear b
  have S0 := Lib.hid sm0
  clear sm0
  cases hz0 : decide (z0 < 0)
  case' true =>
    go_wp2
    go_ret
    exact ⟨rfl, B.out⟩
  have pz0 : 0 ≤ z0 := by have := of_decide_eq_false hz0; omega
  have SM0 := Lib.hid (S0.out pz0)
  clear S0
  go_wp2_with fail
  refine (to_Bus x0 _ _ _ fp0_0 fp0_1 fp0_2 SM0.out _ A0_0.out A0_1.out A0_2.out).mono ?_
  rintro e w2 ⟨S0v0, S0f0, S0v1, S0f1, S0v2, S0f2, rfl, S0g0, S0g1, S0g2, n, b⟩
  replace A0_0 := Lib.hid (SlR.below mrR_fits A0_0.out b)
  replace A0_1 := Lib.hid (SlR.below intR_fits A0_1.out b)
  replace A0_2 := Lib.hid (SlR.below (slR_fits reqR_fits) A0_2.out b)
  replace P0_0 := keep_cell b P0_0
  replace P0_1 := keep_cell b P0_1
  replace P0_2 := keep_cell b P0_2
  replace B := Lib.hid (B.out.trans (b.mono B.out.size))
  obtain ⟨S0a0, S0l0, S0k0, rfl⟩ := S0g0.form
  obtain ⟨S0a1, S0l1, S0k1, rfl⟩ := S0g1.form
  obtain ⟨S0a2, S0l2, S0k2, rfl⟩ := S0g2.form
  have S00 := Lib.hid S0g0
  have S01 := Lib.hid S0g1
  have S02 := Lib.hid S0g2
  clear n b S0g0 S0g1 S0g2
  go_wp2_with fail
  refine (sBusApart_any x0 _ _ _ S0f0 S0f1 S0f2 x1 _ S00.out S01.out S02.out ).mono ?_
  rintro e w3 ⟨rfl, b⟩
  replace A0_0 := Lib.hid (SlR.below mrR_fits A0_0.out b)
  replace A0_1 := Lib.hid (SlR.below intR_fits A0_1.out b)
  replace A0_2 := Lib.hid (SlR.below (slR_fits reqR_fits) A0_2.out b)
  replace P0_0 := keep_cell b P0_0
  replace P0_1 := keep_cell b P0_1
  replace P0_2 := keep_cell b P0_2
  replace S00 := Lib.hid (SlR.below mrR_fits S00.out b)
  replace S01 := Lib.hid (SlR.below intR_fits S01.out b)
  replace S02 := Lib.hid (SlR.below (slR_fits reqR_fits) S02.out b)
  replace B := Lib.hid (B.out.trans (b.mono B.out.size))
  clear b
  clear S00 S01 S02
  go_wp2_with fail
  refine (to_Bus x0 _ _ _ fp0_0 fp0_1 fp0_2 SM0.out _ A0_0.out A0_1.out A0_2.out).mono ?_
  rintro e w4 ⟨X0v0, X0f0, X0v1, X0f1, X0v2, X0f2, rfl, X0g0, X0g1, X0g2, n, b⟩
  replace A0_0 := Lib.hid (SlR.below mrR_fits A0_0.out b)
  replace A0_1 := Lib.hid (SlR.below intR_fits A0_1.out b)
  replace A0_2 := Lib.hid (SlR.below (slR_fits reqR_fits) A0_2.out b)
  replace P0_0 := keep_cell b P0_0
  replace P0_1 := keep_cell b P0_1
  replace P0_2 := keep_cell b P0_2
  replace B := Lib.hid (B.out.trans (b.mono B.out.size))
  obtain ⟨X0a0, X0l0, X0k0, rfl⟩ := X0g0.form
  obtain ⟨X0a1, X0l1, X0k1, rfl⟩ := X0g1.form
  obtain ⟨X0a2, X0l2, X0k2, rfl⟩ := X0g2.form
  have X00 := Lib.hid X0g0
  have X01 := Lib.hid X0g1
  have X02 := Lib.hid X0g2
  clear n b X0g0 X0g1 X0g2
  have ba := below_alloc w4 (.cells #[.slice X0a0 X0l0 X0k0, .slice X0a1 X0l1 X0k1, .slice X0a2 X0l2 X0k2] 32)
  replace A0_0 := Lib.hid (SlR.below mrR_fits A0_0.out ba)
  replace A0_1 := Lib.hid (SlR.below intR_fits A0_1.out ba)
  replace A0_2 := Lib.hid (SlR.below (slR_fits reqR_fits) A0_2.out ba)
  replace P0_0 := keep_cell ba P0_0
  replace P0_1 := keep_cell ba P0_1
  replace P0_2 := keep_cell ba P0_2
  replace X00 := Lib.hid (SlR.below mrR_fits X00.out ba)
  replace X01 := Lib.hid (SlR.below intR_fits X01.out ba)
  replace X02 := Lib.hid (SlR.below (slR_fits reqR_fits) X02.out ba)
  replace B := Lib.hid (B.out.trans (ba.mono B.out.size))
  have Q0_0 := alloc1_new w4 #[.slice X0a0 X0l0 X0k0, .slice X0a1 X0l1 X0k1, .slice X0a2 X0l2 X0k2] 32 0 rfl
  have Q0_1 := alloc1_new w4 #[.slice X0a0 X0l0 X0k0, .slice X0a1 X0l1 X0k1, .slice X0a2 X0l2 X0k2] 32 1 rfl
  have Q0_2 := alloc1_new w4 #[.slice X0a0 X0l0 X0k0, .slice X0a1 X0l1 X0k1, .slice X0a2 X0l2 X0k2] 32 2 rfl
  clear ba
  have zb0 := block_of_cell P0_0
  go_wp2_with fail
  refine (iBusApart_any x0 _ _ _ X0f0 X0f1 X0f2 x1 _ X00.out X01.out X02.out ).mono ?_
  rintro e w5 ⟨rfl, b⟩
  replace A0_0 := Lib.hid (SlR.below mrR_fits A0_0.out b)
  replace A0_1 := Lib.hid (SlR.below intR_fits A0_1.out b)
  replace A0_2 := Lib.hid (SlR.below (slR_fits reqR_fits) A0_2.out b)
  replace P0_0 := keep_cell b P0_0
  replace P0_1 := keep_cell b P0_1
  replace P0_2 := keep_cell b P0_2
  replace X00 := Lib.hid (SlR.below mrR_fits X00.out b)
  replace X01 := Lib.hid (SlR.below intR_fits X01.out b)
  replace X02 := Lib.hid (SlR.below (slR_fits reqR_fits) X02.out b)
  replace Q0_0 := keep_cell b Q0_0
  replace Q0_1 := keep_cell b Q0_1
  replace Q0_2 := keep_cell b Q0_2
  replace B := Lib.hid (B.out.trans (b.mono B.out.size))
  clear b
  go_wp2_with fail
  have hst : ∀ F, F ∈ [FEq (.agg #[.slice X0a0 X0l0 X0k0, .slice X0a1 X0l1 X0k1, .slice X0a2 X0l2 X0k2]), FEq (.agg #[.slice al0_0 ln0_0 kn0_0, .slice al0_1 ln0_1 kn0_1, .slice al0_2 ln0_2 kn0_2]), FTo_Bus x0, FEq (.bool true), FEq (.bool false)] → Stable [] F := by
    simp only [List.forall_mem_cons]
    exact ⟨stEq _ _, stEq _ _, stTo_Bus _, stEq _ _, stEq _ _, fun _ h => by simp at h⟩
  refine wp_region_rule (by kernel_rfl) (fun i => ([[], [], [1], [0, 1, 2], [0, 1, 2, 3]] : List (List Nat)).getD i []) (facts [FEq (.agg #[.slice X0a0 X0l0 X0k0, .slice X0a1 X0l1 X0k1, .slice X0a2 X0l2 X0k2]), FEq (.agg #[.slice al0_0 ln0_0 kn0_0, .slice al0_1 ln0_1 kn0_1, .slice al0_2 ln0_2 kn0_2]), FTo_Bus x0, FEq (.bool true), FEq (.bool false)]) (fun _ w' => Below w5.heap.size w5 w') 31 5 [some 26, some 27, some 28, some 29, some 30] rfl rfl rfl (by kernel_rfl) ?h0 (all_lt (n := 5) ?hop) ?hend
  case h0 => exact (Below.refl _ _).drew
  case hop =>
    refine ⟨⟨⟨⟨⟨trivial, ?_⟩, ?_⟩, ?_⟩, ?_⟩, ?_⟩
    · refine Owes.mk _ rfl rfl (fun _ _ h => by cases h) fun u m w' hm hI hR => ⟨⟨#[undef, undef, undef, undef, undef, undef, undef, .pointer (some ⟨w4.heap.size, 0, none⟩), undef, undef, undef, undef, undef, undef, undef, undef, undef, undef, undef, undef, undef, undef, undef, undef, undef, undef, undef, undef, undef, undef, undef], []⟩, rfl, fun d hd => by cases hd; exact (by decide : 26 < 31), ?_⟩
      have k0 := keep_cell hI Q0_0
      have k1 := keep_cell hI Q0_1
      have k2 := keep_cell hI Q0_2
      have HI := Lib.hid hI
      clear hI hR hst
      go_wp2
      exact ⟨rfl, _, rfl, rfl, HI.out, fun _ _ h => h⟩
    · refine Owes.mk _ rfl rfl (fun _ _ h => by cases h) fun u m w' hm hI hR => ⟨⟨#[undef, undef, .pointer (some ⟨w.heap.size, 0, none⟩), undef, undef, undef, undef, undef, undef, undef, undef, undef, undef, undef, undef, undef, undef, undef, undef, undef, undef, undef, undef, undef, undef, undef, undef, undef, undef, undef, undef], []⟩, rfl, fun d hd => by cases hd; exact (by decide : 27 < 31), ?_⟩
      have k0 := keep_cell hI P0_0
      have k1 := keep_cell hI P0_1
      have k2 := keep_cell hI P0_2
      have HI := Lib.hid hI
      clear hI hR hst
      go_wp2
      exact ⟨rfl, _, rfl, rfl, HI.out, fun _ _ h => h⟩
    · refine Owes.mk _ rfl rfl (fun _ _ h => by cases h) fun u m w' hm hI hR => ⟨⟨#[undef, undef, undef, undef, undef, undef, undef, undef, undef, undef, undef, undef, undef, undef, undef, undef, undef, undef, undef, undef, undef, undef, undef, undef, undef, undef, undef, u 1, undef, undef, undef], []⟩, rfl, fun d hd => by cases hd; exact (by decide : 28 < 31), ?_⟩
      have ea0 : u 1 = _ := hR 1 (by decide)
      rw [ea0]
      clear ea0
      clear hR
      go_wp2_with fail
      refine (to_Bus x0 _ _ _ fp0_0 fp0_1 fp0_2 SM0.out _ (A0_0.out.below mrR_fits hI) (A0_1.out.below intR_fits hI) (A0_2.out.below (slR_fits reqR_fits) hI)).mono ?_
      rintro e w2 ⟨v'0, fq0, v'1, fq1, v'2, fq2, rfl, g'0, g'1, g'2, n', b2⟩
      have hs := facts_stable hst (b2.chg [])
      have HF := Lib.hid (show (FTo_Bus x0) _ w2 from ⟨v'0, v'1, v'2, fq0, fq1, fq2, rfl, g'0, g'1, g'2⟩)
      have HS := Lib.hid hs
      have HI := Lib.hid (hI.trans (b2.mono hI.size))
      clear hs hI b2 hst g'0 g'1 g'2 n'
      go_wp2
      exact ⟨rfl, _, rfl, HF.out, HI.out, HS.out⟩
    · refine Owes.mk _ rfl rfl (fun _ _ h => by cases h) fun u m w' hm hI hR => ⟨⟨#[undef, undef, undef, undef, undef, undef, undef, undef, undef, undef, undef, undef, undef, undef, undef, undef, undef, undef, undef, undef, undef, undef, undef, undef, undef, undef, u 0, undef, u 2, undef, undef], []⟩, rfl, fun d hd => by cases hd; exact (by decide : 29 < 31), ?_⟩
      have ea0 : u 0 = _ := hR 0 (by decide)
      obtain ⟨va10, va11, va12, fqa10, fqa11, fqa12, ea1, ga10, ga11, ga12⟩ := hR 2 (by decide)
      rw [ea0, ea1]
      clear ea0 ea1
      clear hR
      go_wp2_with fail
      refine (eq_Bus x0 x0 _ _ _ _ _ _ X0f0 X0f1 X0f2 fqa10 fqa11 fqa12 _ (X00.out.below mrR_fits hI) (X01.out.below intR_fits hI) (X02.out.below (slR_fits reqR_fits) hI) ga10 ga11 ga12).mono ?_
      rw [decide_eq_true rfl]
      rintro e w2 ⟨rfl, b2⟩
      have hs := facts_stable hst (b2.chg [])
      have HF := Lib.hid (show (FEq (.bool true)) _ w2 from rfl)
      have HS := Lib.hid hs
      have HI := Lib.hid (hI.trans (b2.mono hI.size))
      clear hs hI b2 hst ga10 ga11 ga12
      go_wp2
      exact ⟨rfl, _, rfl, HF.out, HI.out, HS.out⟩
    · refine Owes.mk _ rfl rfl (fun _ _ h => by cases h) fun u m w' hm hI hR => ⟨⟨#[undef, undef, undef, undef, undef, undef, undef, undef, undef, undef, undef, undef, undef, undef, undef, undef, undef, undef, undef, undef, undef, undef, undef, undef, undef, undef, undef, undef, undef, u 3, undef], []⟩, rfl, fun d hd => by cases hd; exact (by decide : 30 < 31), ?_⟩
      have ea : u 3 = _ := hR 3 (by decide)
      rw [ea]
      clear ea
      have HI := Lib.hid hI
      clear hI hR hst
      go_wp2
      exact ⟨rfl, _, rfl, rfl, HI.out, fun _ _ h => h⟩
  case hend =>
    intro u w' hI hR
    simp only [setAll, List.set_cons_zero, List.set_cons_succ]
    have e0 : u 0 = _ := hR 0 (by decide)
    have e1 : u 1 = _ := hR 1 (by decide)
    obtain ⟨vr2_0, vr2_1, vr2_2, fr2_0, fr2_1, fr2_2, e2, gr2_0, gr2_1, gr2_2⟩ := hR 2 (by decide)
    have e3 : u 3 = _ := hR 3 (by decide)
    have e4 : u 4 = _ := hR 4 (by decide)
    have HE := Lib.hid hI
    clear hR hI hst gr2_0 gr2_1 gr2_2
    simp only [Nat.zero_add, Nat.reduceAdd]
    rw [e0, e1, e2, e3, e4]
    clear e0 e1 e2 e3 e4
    have b : Below w5.heap.size w5 w' := HE.out
    obtain ⟨w6, hw⟩ : ∃ W, W = w' := ⟨_, rfl⟩
    rw [← hw] at b ⊢
    clear hw HE
    replace A0_0 := Lib.hid (SlR.below mrR_fits A0_0.out b)
    replace A0_1 := Lib.hid (SlR.below intR_fits A0_1.out b)
    replace A0_2 := Lib.hid (SlR.below (slR_fits reqR_fits) A0_2.out b)
    replace P0_0 := keep_cell b P0_0
    replace P0_1 := keep_cell b P0_1
    replace P0_2 := keep_cell b P0_2
    replace X00 := Lib.hid (SlR.below mrR_fits X00.out b)
    replace X01 := Lib.hid (SlR.below intR_fits X01.out b)
    replace X02 := Lib.hid (SlR.below (slR_fits reqR_fits) X02.out b)
    replace Q0_0 := keep_cell b Q0_0
    replace Q0_1 := keep_cell b Q0_1
    replace Q0_2 := keep_cell b Q0_2
    replace B := Lib.hid (B.out.trans (b.mono B.out.size))
    clear b
    go_wp2
    go_ret
    exact ⟨rfl, B.out⟩


set_option maxRecDepth 100000 in
theorem lifted (os : Os) (started : os.Started) (H : Type) (enc : TypeId × Value → H) :
    ReturnsInHanded {} Try.checked os 3 .any (Rows.fnExactBusApartSpec.pre6 enc Try.prog Try.f3 Rows.fnExactBusApartRow.domain false) (Rows.fnExactBusApartSpec.post enc Try.prog Try.f3 false true false false) := by
  refine returnsInHanded_of_change (C := Try.checked) own started (by kernel_rfl) Try.func3
    (ChangeSpec.witness6 (enc := enc) (C := Try.checked) false ⟨#[], #[.agg #[.slice none 0 0, .slice none 0 0, .slice none 0 0], .int .i64 0], []⟩ 8 (by kernel_rfl) (by kernel_rfl) (by kernel_rfl) (by kernel_rfl)) ?_
  intro W base args ds gs before hval0 hW hcnd _
  have hval : ∀ (j : Nat) t v, Try.f3.params[j]? = some t → args[j]? = some v → Value.okWide Try.prog W .any base t v := hval0
  have hW' := hW
  obtain ⟨p, q, hA0, hV, rfl, hfz, hnd⟩ := hW
  have hA : DataW.TrodAll enc Try.prog W 0 (fun _ => true) true Try.f3.params.toList args.toList ds p := hA0
  rw [Try.params3] at hA hval
  obtain ⟨v0, vs0, d0, ds0, p0, q0, hargs, rfl, rfl, h0, r0⟩ := trodAll_cons hA
  obtain ⟨v1, vs1, d1, ds1, p1, q1, rfl, rfl, rfl, h1, r1⟩ := trodAll_cons r0
  obtain ⟨rfl, rfl, rfl⟩ := trodAll_nil r1
  obtain rfl : args = #[v0, v1] := by cases args; simp_all
  obtain ⟨rfl, rfl⟩ := trodVars_none hV
  clear hA0 hval0
  simp only [List.append_nil] at hW'
  have hlt0 : ∀ x ∈ p0, x.block < W.heap.size := fun x hx => by simpa using hW'.lt x (by simp [hx])
  have hk0 := h0
  obtain ⟨cs0, rfl, _⟩ := okWide_struct Try.underlying26 (hval 0 26 v0 rfl rfl)
  obtain ⟨fuel0, hf0⟩ := h0
  obtain ⟨x0, fp0, g0⟩ := opens_Bus hf0
  replace g0 : busR W x0 cs0.toList fp0 := g0
  obtain ⟨a1, rfl, rfl, rfl, w1⟩ := open_int Try.underlying3 (hval 1 3 v1 rfl rfl) h1
  refine (walk cs0 x0 fp0 a1 W g0).mono fun e W' ⟨he, hb⟩ => ?_
  subst he
  exact ⟨_, rfl, _, _, _, [], _, [], hW', (trodAll_cons_mk (shut_bool Try.underlying4 _) trodAll_mk0), (trodAll_cons_mk (Below.trod laidOut (by kernel_rfl) (of_decide_eq_true (by kernel_rfl)) hk0 hb hlt0) (trodAll_cons_mk (shut_int Try.underlying3 w1) trodAll_mk0)), rfl, hb.frame _, fun h => by cases h⟩

theorem over : Rows.fnExactBusApartRow.holds Try.pinned (OpenSpec.ofChange Rows.fnExactBusApartSpec) :=
  OpenClaim.holds_of_wide 3 Try.f3 rfl rfl rfl rfl rfl rfl rfl ⟨rfl, rfl, rfl, rfl, rfl⟩ rfl rfl rfl rfl rfl (by kernel_rfl) Try.func3 (by kernel_rfl)
    (of_decide_eq_true (by kernel_rfl)) (by unfold Func.isWrapper; first | (rw [if_pos (by decide +kernel)]; kernel_rfl) | (rw [if_neg (by decide +kernel)]; exact ⟨rfl, rfl⟩))
    (fun os started H enc _ => lifted os started H enc)

theorem proved : Rows.FnExactBusApartSaid :=
  over
#print axioms proved
end Go.Proofs.Ytmmojgopeaelcaa.fnExactBusApart
