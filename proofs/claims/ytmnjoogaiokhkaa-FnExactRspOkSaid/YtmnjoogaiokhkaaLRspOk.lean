/-
  Proved: the Go function laws.FnExactRspOk returns true for every argument, and the argument reads afterwards as before: the program's RspOk answers as the reference's.
  Conditions: none.
-/
import Derived.Test.YtmnjoogaiokhkaaLift
import Derived.Test.YtmnjoogaiokhkaaRsp
import Derived.Test.YtmnjoogaiokhkaaFacts
namespace Go.Proofs.Ytmnjoogaiokhkaa.fnExactRspOk
set_option linter.unusedVariables false
open Go.ChangeShapes Go.WideShapes Go.ChangeAt Go.RowKit

def FTo (x : Rsp) : Fact := fun v w => ∃ (v' : Value) (fp' : List Nat), v = .agg #[.int .i64 x.id, .int .i64 x.code, v'] ∧ IntS w x.data v' fp'
theorem stTo (x : Rsp) : Stable [] (FTo x) := fun _ _ _ ⟨v', fp', e, h⟩ hc => ⟨v', fp', e, h.chg intR_fits hc (fun _ _ => by simp)⟩

set_option maxHeartbeats 800000 in
theorem walk (cs : Array Value) (x : Rsp) (fp : List Nat) (w : World) (g0 : rspR w x cs.toList fp) :
    Calls Try.prog 13 #[.agg cs] w fun e w' => e = .returned (.bool true) ∧ Below w.heap.size w w' := by
  obtain ⟨cs⟩ := cs
  obtain ⟨v, e, g⟩ := g0
  obtain rfl : cs = [.int .i64 x.id, .int .i64 x.code, v] := e
  have hb := below_alloc w (.cells #[.int .i64 x.id, .int .i64 x.code, v] 59)
  have GA := Lib.hid (SlR.below intR_fits g hb)
  have B0 := Lib.hid hb
  clear hb
  by_cases hsz : 1048576 < x.data.length
  · have hneg : szR 1048576 x.data.length = -1 := by unfold szR; rw [if_pos (by omega)]
    have HN := Lib.hid hneg
    clear hneg g
    go_enter Try.func13, Try.ntmps13
    go_wp2_with fail
    refine (szRsp_any x v fp 1048576 (by omega) (by omega) _ GA.out).mono ?_
    rw [HN.out]
    rintro e w1 ⟨rfl, b1⟩
    have B1 := Lib.hid (B0.out.trans (b1.mono B0.out.size))
    clear b1
    go_wp2
    go_ret
    exact ⟨rfl, B1.out⟩
  · have hs : x.data.length ≤ 1048576 := by omega
    have hpos : 0 ≤ szR 1048576 x.data.length := by unfold szR; rw [if_neg (by omega)]; omega
    generalize hz : szR 1048576 x.data.length = z at *
    have HZ := Lib.hid hz
    clear hz
    obtain ⟨al, ln, kn, rfl⟩ := g.form
    clear g
    go_enter Try.func13, Try.ntmps13
    go_wp2_with fail
    refine (szRsp_any x _ fp 1048576 (by omega) (by omega) _ GA.out).mono ?_
    rw [HZ.out]
    rintro e w1 ⟨rfl, b1⟩
    have p0 := keep_cell b1 (alloc1_new w _ _ 0 rfl)
    have p1 := keep_cell b1 (alloc1_new w _ _ 1 rfl)
    have p2 := keep_cell b1 (alloc1_new w _ _ 2 rfl)
    have G1 := Lib.hid (GA.out.below intR_fits b1)
    have B1 := Lib.hid (B0.out.trans (b1.mono B0.out.size))
    clear b1 GA B0
    go_wp2_with fail
    refine (toRsp_any x _ fp hs _ G1.out).mono ?_
    rintro e w2 ⟨v2, fp2, rfl, g2, n2, b2⟩
    have q0 := keep_cell b2 p0
    have q1 := keep_cell b2 p1
    have q2 := keep_cell b2 p2
    have G2 := Lib.hid (G1.out.below intR_fits b2)
    have X2 := Lib.hid g2
    have B2 := Lib.hid (B1.out.trans (b2.mono B1.out.size))
    clear b2 n2 g2 G1 B1 p0 p1 p2
    go_wp2_with fail
    refine (sRspOk_any x _ fp2 _ X2.out).mono ?_
    rintro e w3 ⟨rfl, b3⟩
    have p0 := keep_cell b3 q0
    have p1 := keep_cell b3 q1
    have p2 := keep_cell b3 q2
    have G3 := Lib.hid (G2.out.below intR_fits b3)
    have B3 := Lib.hid (B2.out.trans (b3.mono B2.out.size))
    clear b3 G2 B2 X2 q0 q1 q2
    go_wp2_with fail
    refine (toRsp_any x _ fp hs _ G3.out).mono ?_
    rintro e w4 ⟨v4, fp4, rfl, g4, n4, b4⟩
    obtain ⟨a4, l4, k4, rfl⟩ := g4.form
    have q0 := keep_cell b4 p0
    have q1 := keep_cell b4 p1
    have q2 := keep_cell b4 p2
    have ba := below_alloc w4 (.cells #[.int .i64 x.id, .int .i64 x.code, .slice a4 l4 k4] 56)
    have G4 := Lib.hid ((G3.out.below intR_fits b4).below intR_fits ba)
    have X4 := Lib.hid (g4.below intR_fits ba)
    have B4 := Lib.hid ((B3.out.trans (b4.mono B3.out.size)).trans (ba.mono (Nat.le_trans B3.out.size b4.size)))
    have z0 := block_of_cell q0
    clear b4 n4 g4 ba G3 B3 p0 p1 p2
    go_wp2_with fail
    refine (iRspOk_any x _ fp4 _ X4.out).mono ?_
    rintro e w5 ⟨rfl, b5⟩
    have p0 := keep_cell b5 (alloc_keep q0 _)
    have p1 := keep_cell b5 (alloc_keep q1 _)
    have p2 := keep_cell b5 (alloc_keep q2 _)
    have r0 := keep_cell b5 (alloc1_new w4 _ _ 0 rfl)
    have r1 := keep_cell b5 (alloc1_new w4 _ _ 1 rfl)
    have r2 := keep_cell b5 (alloc1_new w4 _ _ 2 rfl)
    have G5 := Lib.hid (G4.out.below intR_fits b5)
    have X5 := Lib.hid (X4.out.below intR_fits b5)
    have B5 := Lib.hid (B4.out.trans (b5.mono B4.out.size))
    clear b5 G4 B4 X4 q0 q1 q2 z0
    go_wp2_with fail
    have hst : ∀ F, F ∈ [FEq (.agg #[.int .i64 x.id, .int .i64 x.code, .slice a4 l4 k4]), FEq (.agg #[.int .i64 x.id, .int .i64 x.code, .slice al ln kn]), (FTo x), FEq (.bool true), FEq (.bool false)] → Stable [] F := by
      simp only [List.forall_mem_cons]
      exact ⟨stEq _ _, stEq _ _, stTo _, stEq _ _, stEq _ _, fun _ h => by simp at h⟩
    refine wp_region_rule (by kernel_rfl) (fun i => ([[], [], [1], [0, 1, 2], [0, 1, 2, 3]] : List (List Nat)).getD i []) (facts [FEq (.agg #[.int .i64 x.id, .int .i64 x.code, .slice a4 l4 k4]), FEq (.agg #[.int .i64 x.id, .int .i64 x.code, .slice al ln kn]), (FTo x), FEq (.bool true), FEq (.bool false)]) (fun _ w' => Below w5.heap.size w5 w') 27 5 [some 22, some 23, some 24, some 25, some 26] rfl rfl rfl (by kernel_rfl) ?h0 (all_lt (n := 5) ?hop) ?hend
    case h0 => exact (Below.refl _ _).drew
    case hop =>
      refine ⟨⟨⟨⟨⟨trivial, ?_⟩, ?_⟩, ?_⟩, ?_⟩, ?_⟩
      · refine Owes.mk _ rfl rfl (fun _ _ h => by cases h) fun u m w' hm hI hR => ⟨⟨#[undef, undef, undef, undef, undef, .pointer (some ⟨w4.heap.size, 0, none⟩), undef, undef, undef, undef, undef, undef, undef, undef, undef, undef, undef, undef, undef, undef, undef, undef, undef, undef, undef, undef, undef], []⟩, rfl, fun d hd => by cases hd; exact (by decide : 22 < 27), ?_⟩
        have k0 := keep_cell hI r0
        have k1 := keep_cell hI r1
        have k2 := keep_cell hI r2
        have HI := Lib.hid hI
        clear hI hR hst
        go_wp2
        exact ⟨rfl, _, rfl, rfl, HI.out, fun _ _ h => h⟩
      · refine Owes.mk _ rfl rfl (fun _ _ h => by cases h) fun u m w' hm hI hR => ⟨⟨#[undef, .pointer (some ⟨w.heap.size, 0, none⟩), undef, undef, undef, undef, undef, undef, undef, undef, undef, undef, undef, undef, undef, undef, undef, undef, undef, undef, undef, undef, undef, undef, undef, undef, undef], []⟩, rfl, fun d hd => by cases hd; exact (by decide : 23 < 27), ?_⟩
        have k0 := keep_cell hI p0
        have k1 := keep_cell hI p1
        have k2 := keep_cell hI p2
        have HI := Lib.hid hI
        clear hI hR hst
        go_wp2
        exact ⟨rfl, _, rfl, rfl, HI.out, fun _ _ h => h⟩
      · refine Owes.mk _ rfl rfl (fun _ _ h => by cases h) fun u m w' hm hI hR => ⟨⟨#[undef, undef, undef, undef, undef, undef, undef, undef, undef, undef, undef, undef, undef, undef, undef, undef, undef, undef, undef, undef, undef, undef, undef, u 1, undef, undef, undef], []⟩, rfl, fun d hd => by cases hd; exact (by decide : 24 < 27), ?_⟩
        have e1 : u 1 = _ := hR 1 (by decide)
        rw [e1]
        clear e1 hR
        go_wp2_with fail
        refine (toRsp_any x _ fp hs _ (G5.out.below intR_fits hI)).mono ?_
        rintro e w2 ⟨v', fp', rfl, g2, n2, b2⟩
        have hs := facts_stable hst (b2.chg [])
        have HF := Lib.hid (show (FTo x) _ w2 from ⟨v', fp', rfl, g2⟩)
        have HS := Lib.hid hs
        have HI := Lib.hid (hI.trans (b2.mono hI.size))
        clear hs hI b2 hst g2 n2
        go_wp2
        exact ⟨rfl, _, rfl, HF.out, HI.out, HS.out⟩
      · refine Owes.mk _ rfl rfl (fun _ _ h => by cases h) fun u m w' hm hI hR => ⟨⟨#[undef, undef, undef, undef, undef, undef, undef, undef, undef, undef, undef, undef, undef, undef, undef, undef, undef, undef, undef, undef, undef, undef, u 0, undef, u 2, undef, undef], []⟩, rfl, fun d hd => by cases hd; exact (by decide : 25 < 27), ?_⟩
        have e0 : u 0 = _ := hR 0 (by decide)
        obtain ⟨v2, fp2, e2, g2⟩ := hR 2 (by decide)
        rw [e0, e2]
        clear e0 e2 hR
        go_wp2_with fail
        refine (eqRsp_any x x _ _ _ _ _ (X5.out.below intR_fits hI) g2).mono ?_
        rw [decide_eq_true rfl]
        rintro e w2 ⟨rfl, b2⟩
        have hs := facts_stable hst (b2.chg [])
        have HS := Lib.hid hs
        have HI := Lib.hid (hI.trans (b2.mono hI.size))
        clear hs hI b2 hst g2
        go_wp2
        exact ⟨rfl, _, rfl, rfl, HI.out, HS.out⟩
      · refine Owes.mk _ rfl rfl (fun _ _ h => by cases h) fun u m w' hm hI hR => ⟨⟨#[undef, undef, undef, undef, undef, undef, undef, undef, undef, undef, undef, undef, undef, undef, undef, undef, undef, undef, undef, undef, undef, undef, undef, undef, undef, u 3, undef], []⟩, rfl, fun d hd => by cases hd; exact (by decide : 26 < 27), ?_⟩
        have e3 : u 3 = _ := hR 3 (by decide)
        rw [e3]
        have HI := Lib.hid hI
        clear e3 hR hI hst
        go_wp2
        exact ⟨rfl, _, rfl, rfl, HI.out, fun _ _ h => h⟩
    case hend =>
      intro u w' hI hR
      simp only [setAll, List.set_cons_zero, List.set_cons_succ]
      have e4 : u 4 = _ := hR 4 (by decide)
      have HE := Lib.hid hI
      clear hR hI hst
      simp only [Nat.zero_add, Nat.reduceAdd]
      rw [e4]
      clear e4
      go_wp2
      go_ret
      exact ⟨rfl, B5.out.trans (HE.out.mono B5.out.size)⟩

set_option maxRecDepth 100000 in
theorem lifted (os : Os) (started : os.Started) (H : Type) (enc : TypeId × Value → H) :
    ReturnsInHanded {} Try.checked os 13 .any (Rows.fnExactRspOkSpec.pre6 enc Try.prog Try.f13 Rows.fnExactRspOkRow.domain false) (Rows.fnExactRspOkSpec.post enc Try.prog Try.f13 false true false false) := by
  refine returnsInHanded_of_change (C := Try.checked) own started (by kernel_rfl) Try.func13
    (ChangeSpec.witness6 (enc := enc) (C := Try.checked) false ⟨#[], #[.agg #[.int .i64 0, .int .i64 0, .slice none 0 0]], []⟩ 8 (by kernel_rfl) (by kernel_rfl) (by kernel_rfl) (by kernel_rfl)) ?_
  intro W base args ds gs before hval0 hW hcnd _
  have hval : ∀ (j : Nat) t v, Try.f13.params[j]? = some t → args[j]? = some v → Value.okWide Try.prog W .any base t v := hval0
  have hW' := hW
  obtain ⟨p, q, hA0, hV, rfl, hfz, hnd⟩ := hW
  have hA : DataW.TrodAll enc Try.prog W 0 (fun _ => true) true Try.f13.params.toList args.toList ds p := hA0
  rw [Try.params13] at hA hval
  obtain ⟨v0, vs0, d0, ds0, p0, q0, hargs, rfl, rfl, h0, r0⟩ := trodAll_cons hA
  obtain ⟨rfl, rfl, rfl⟩ := trodAll_nil r0
  obtain rfl : args = #[v0] := by cases args; simp_all
  obtain ⟨rfl, rfl⟩ := trodVars_none hV
  clear hA0 hval0
  simp only [List.append_nil] at hW'
  have hlt0 : ∀ x ∈ p0, x.block < W.heap.size := fun x hx => by simpa using hW'.lt x (by simp [hx])
  have hk0 := h0
  obtain ⟨cs0, rfl, _⟩ := okWide_struct Try.underlying59 (hval 0 59 v0 rfl rfl)
  obtain ⟨fuel0, hf0⟩ := h0
  obtain ⟨x0, fp0, g0⟩ := opens_rsp hf0
  replace g0 : rspR W x0 cs0.toList fp0 := g0
  refine (walk cs0 x0 fp0 W g0).mono fun e W' ⟨he, hb⟩ => ?_
  subst he
  exact ⟨_, rfl, _, _, _, [], _, [], hW', (trodAll_cons_mk (shut_bool Try.underlying4 _) trodAll_mk0), (trodAll_cons_mk (Below.trod laidOut (by kernel_rfl) (of_decide_eq_true (by kernel_rfl)) hk0 hb hlt0) trodAll_mk0), rfl, hb.frame _, fun h => by cases h⟩

theorem over : Rows.fnExactRspOkRow.holds Try.pinned (OpenSpec.ofChange Rows.fnExactRspOkSpec) :=
  OpenClaim.holds_of_wide 13 Try.f13 rfl rfl rfl rfl rfl rfl rfl ⟨rfl, rfl, rfl, rfl, rfl⟩ rfl rfl rfl rfl rfl (by kernel_rfl) Try.func13 (by kernel_rfl)
    (of_decide_eq_true (by kernel_rfl)) (by unfold Func.isWrapper; first | (rw [if_pos (by decide +kernel)]; kernel_rfl) | (rw [if_neg (by decide +kernel)]; exact ⟨rfl, rfl⟩))
    (fun os started H enc _ => lifted os started H enc)

theorem proved : Rows.FnExactRspOkSaid :=
  over
#print axioms proved
end Go.Proofs.Ytmnjoogaiokhkaa.fnExactRspOk
