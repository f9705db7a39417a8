/-
  Proved: the Go function laws.FnExactInOk returns true for every argument, and the argument reads afterwards as before: the program's InOk answers as the reference's.
  Conditions: none.
-/
import Derived.Test.YtmnjoogaiokhkaaLift
import Derived.Test.YtmnjoogaiokhkaaIn
import Derived.Test.YtmnjoogaiokhkaaFacts
namespace Go.Proofs.Ytmnjoogaiokhkaa.fnExactInOk
set_option linter.unusedVariables false
open Go.ChangeShapes Go.WideShapes Go.ChangeAt Go.RowKit

def FTo (x : CycIn) : Fact := fun v w => ∃ (v'0 : Value) (fq0 : List Nat) (v'1 : Value) (fq1 : List Nat) (v'2 : Value) (fq2 : List Nat), v = .agg #[v'0, v'1, v'2] ∧ SlR 1 boolR w x.ready v'0 fq0 ∧ SlR 1 boolR w x.stall v'1 fq1 ∧ SlR 1 boolR w x.send v'2 fq2
theorem stTo (x : CycIn) : Stable [] (FTo x) := fun _ _ _ ⟨v'0, fq0, v'1, fq1, v'2, fq2, e, h0, h1, h2⟩ hc => ⟨v'0, fq0, v'1, fq1, v'2, fq2, e, h0.chg boolR_fits hc (fun _ _ => by simp), h1.chg boolR_fits hc (fun _ _ => by simp), h2.chg boolR_fits hc (fun _ _ => by simp)⟩

set_option maxHeartbeats 1600000 in
theorem walk (cs : Array Value) (x : CycIn) (fp : List Nat) (w : World) (g0 : cycInR w x cs.toList fp) :
    Calls Try.prog 9 #[.agg cs] w fun e w' => e = .returned (.bool true) ∧ Below w.heap.size w w' := by
  obtain ⟨cs⟩ := cs
  obtain ⟨v0, v1, v2, fp0, fp1, fp2, e, _, g0, g1, g2⟩ := g0
  obtain rfl : cs = [v0, v1, v2] := e
  have hb := below_alloc w (.cells #[v0, v1, v2] 41)
  have GA0 := Lib.hid (SlR.below boolR_fits g0 hb)
  have GA1 := Lib.hid (SlR.below boolR_fits g1 hb)
  have GA2 := Lib.hid (SlR.below boolR_fits g2 hb)
  have B0 := Lib.hid hb
  clear hb
  by_cases hsz : szIn 1048576 x < 0
  · have HN := Lib.hid (szIn_neg hsz)
    clear hsz g0 g1 g2
    go_enter Try.func9, Try.ntmps9
    go_wp2_with fail
    refine (szIn_any x v0 v1 v2 fp0 fp1 fp2 1048576 (by omega) (by omega) _ GA0.out GA1.out GA2.out).mono ?_
    rw [HN.out]
    rintro e w1 ⟨rfl, b1⟩
    have B1 := Lib.hid (B0.out.trans (b1.mono B0.out.size))
    clear b1
    go_wp2
    go_ret
    exact ⟨rfl, B1.out⟩
  · have hs := szIn_ok (by omega : 0 ≤ szIn 1048576 x)
    have hpos : 0 ≤ szIn 1048576 x := by omega
    generalize hz : szIn 1048576 x = z at *
    have HZ := Lib.hid hz
    have HS := Lib.hid hs
    clear hz hs
    obtain ⟨al0, ln0, kn0, rfl⟩ := g0.form
    obtain ⟨al1, ln1, kn1, rfl⟩ := g1.form
    obtain ⟨al2, ln2, kn2, rfl⟩ := g2.form
    clear g0 g1 g2
    go_enter Try.func9, Try.ntmps9
    go_wp2_with fail
    refine (szIn_any x _ _ _ fp0 fp1 fp2 1048576 (by omega) (by omega) _ GA0.out GA1.out GA2.out).mono ?_
    rw [HZ.out]
    rintro e w1 ⟨rfl, b1⟩
    have p0 := keep_cell b1 (alloc1_new w _ _ 0 rfl)
    have p1 := keep_cell b1 (alloc1_new w _ _ 1 rfl)
    have p2 := keep_cell b1 (alloc1_new w _ _ 2 rfl)
    have Ga0 := Lib.hid (GA0.out.below boolR_fits b1)
    have Ga1 := Lib.hid (GA1.out.below boolR_fits b1)
    have Ga2 := Lib.hid (GA2.out.below boolR_fits b1)
    have B1 := Lib.hid (B0.out.trans (b1.mono B0.out.size))
    clear b1 B0 GA0 GA1 GA2
    go_wp2_with fail
    refine (toIn_any x _ _ _ fp0 fp1 fp2 HS.out _ Ga0.out Ga1.out Ga2.out).mono ?_
    rintro e w2 ⟨v20, fp20, v21, fp21, v22, fp22, rfl, g20, g21, g22, n2, b2⟩
    have q0 := keep_cell b2 p0
    have q1 := keep_cell b2 p1
    have q2 := keep_cell b2 p2
    have Gb0 := Lib.hid (Ga0.out.below boolR_fits b2)
    have Gb1 := Lib.hid (Ga1.out.below boolR_fits b2)
    have Gb2 := Lib.hid (Ga2.out.below boolR_fits b2)
    have X20 := Lib.hid g20
    have X21 := Lib.hid g21
    have X22 := Lib.hid g22
    have B2 := Lib.hid (B1.out.trans (b2.mono B1.out.size))
    clear b2 n2 B1 g20 g21 g22 Ga0 Ga1 Ga2 p0 p1 p2
    go_wp2_with fail
    refine (sInOk_any x _ _ _ fp20 fp21 fp22 _ X20.out X21.out X22.out).mono ?_
    rintro e w3 ⟨rfl, b3⟩
    have p0 := keep_cell b3 q0
    have p1 := keep_cell b3 q1
    have p2 := keep_cell b3 q2
    have Gc0 := Lib.hid (Gb0.out.below boolR_fits b3)
    have Gc1 := Lib.hid (Gb1.out.below boolR_fits b3)
    have Gc2 := Lib.hid (Gb2.out.below boolR_fits b3)
    have B3 := Lib.hid (B2.out.trans (b3.mono B2.out.size))
    clear b3 B2 Gb0 Gb1 Gb2 X20 X21 X22 q0 q1 q2
    go_wp2_with fail
    refine (toIn_any x _ _ _ fp0 fp1 fp2 HS.out _ Gc0.out Gc1.out Gc2.out).mono ?_
    rintro e w4 ⟨v40, fp40, v41, fp41, v42, fp42, rfl, g40, g41, g42, n4, b4⟩
    obtain ⟨a40, l40, k40, rfl⟩ := g40.form
    obtain ⟨a41, l41, k41, rfl⟩ := g41.form
    obtain ⟨a42, l42, k42, rfl⟩ := g42.form
    have q0 := keep_cell b4 p0
    have q1 := keep_cell b4 p1
    have q2 := keep_cell b4 p2
    have ba := below_alloc w4 (.cells #[.slice a40 l40 k40, .slice a41 l41 k41, .slice a42 l42 k42] 44)
    have Gd0 := Lib.hid ((Gc0.out.below boolR_fits b4).below boolR_fits ba)
    have Gd1 := Lib.hid ((Gc1.out.below boolR_fits b4).below boolR_fits ba)
    have Gd2 := Lib.hid ((Gc2.out.below boolR_fits b4).below boolR_fits ba)
    have X40 := Lib.hid (g40.below boolR_fits ba)
    have X41 := Lib.hid (g41.below boolR_fits ba)
    have X42 := Lib.hid (g42.below boolR_fits ba)
    have B4 := Lib.hid ((B3.out.trans (b4.mono B3.out.size)).trans (ba.mono (Nat.le_trans B3.out.size b4.size)))
    have z0 := block_of_cell q0
    clear b4 n4 ba B3 g40 g41 g42 Gc0 Gc1 Gc2 p0 p1 p2
    go_wp2_with fail
    refine (iInOk_any x _ _ _ fp40 fp41 fp42 _ X40.out X41.out X42.out).mono ?_
    rintro e w5 ⟨rfl, b5⟩
    have p0 := keep_cell b5 (alloc_keep q0 _)
    have p1 := keep_cell b5 (alloc_keep q1 _)
    have p2 := keep_cell b5 (alloc_keep q2 _)
    have r0 := keep_cell b5 (alloc1_new w4 _ _ 0 rfl)
    have r1 := keep_cell b5 (alloc1_new w4 _ _ 1 rfl)
    have r2 := keep_cell b5 (alloc1_new w4 _ _ 2 rfl)
    have Ge0 := Lib.hid (Gd0.out.below boolR_fits b5)
    have Ge1 := Lib.hid (Gd1.out.below boolR_fits b5)
    have Ge2 := Lib.hid (Gd2.out.below boolR_fits b5)
    have X50 := Lib.hid (X40.out.below boolR_fits b5)
    have X51 := Lib.hid (X41.out.below boolR_fits b5)
    have X52 := Lib.hid (X42.out.below boolR_fits b5)
    have B5 := Lib.hid (B4.out.trans (b5.mono B4.out.size))
    clear b5 B4 z0 Gd0 Gd1 Gd2 X40 X41 X42 q0 q1 q2
    go_wp2_with fail
    have hst : ∀ F, F ∈ [FEq (.agg #[.slice a40 l40 k40, .slice a41 l41 k41, .slice a42 l42 k42]), FEq (.agg #[.slice al0 ln0 kn0, .slice al1 ln1 kn1, .slice al2 ln2 kn2]), (FTo x), FEq (.bool true), FEq (.bool false)] → Stable [] F := by
      simp only [List.forall_mem_cons]
      exact ⟨stEq _ _, stEq _ _, stTo _, stEq _ _, stEq _ _, fun _ h => by simp at h⟩
    refine wp_region_rule (by kernel_rfl) (fun i => ([[], [], [1], [0, 1, 2], [0, 1, 2, 3]] : List (List Nat)).getD i []) (facts [FEq (.agg #[.slice a40 l40 k40, .slice a41 l41 k41, .slice a42 l42 k42]), FEq (.agg #[.slice al0 ln0 kn0, .slice al1 ln1 kn1, .slice al2 ln2 kn2]), (FTo x), FEq (.bool true), FEq (.bool false)]) (fun _ w' => Below w5.heap.size w5 w') 27 5 [some 22, some 23, some 24, some 25, some 26] rfl rfl rfl (by kernel_rfl) ?h0 (all_lt (n := 5) ?hop) ?hend
    case h0 => exact (Below.refl _ _).drew
    case hop =>
      refine ⟨⟨⟨⟨⟨trivial, ?_⟩, ?_⟩, ?_⟩, ?_⟩, ?_⟩
      · refine Owes.mk _ rfl rfl (fun _ _ h => by cases h) fun u m w' hm hI hR => ⟨⟨#[undef, undef, undef, undef, undef, .pointer (some ⟨w4.heap.size, 0, none⟩), undef, undef, undef, undef, undef, undef, undef, undef, undef, undef, undef, undef, undef, undef, undef, undef, undef, undef, undef, undef, undef], []⟩, rfl, fun d hd => by cases hd; exact (by decide : 22 < 27), ?_⟩
        have k0 := keep_cell hI r0
        have k1 := keep_cell hI r1
        have k2 := keep_cell hI r2
        have HI := Lib.hid hI
        clear hI hR hst
        go_wp2
        exact ⟨rfl, _, rfl, rfl, HI.out, fun _ _ h => h⟩
      · refine Owes.mk _ rfl rfl (fun _ _ h => by cases h) fun u m w' hm hI hR => ⟨⟨#[undef, .pointer (some ⟨w.heap.size, 0, none⟩), undef, undef, undef, undef, undef, undef, undef, undef, undef, undef, undef, undef, undef, undef, undef, undef, undef, undef, undef, undef, undef, undef, undef, undef, undef], []⟩, rfl, fun d hd => by cases hd; exact (by decide : 23 < 27), ?_⟩
        have k0 := keep_cell hI p0
        have k1 := keep_cell hI p1
        have k2 := keep_cell hI p2
        have HI := Lib.hid hI
        clear hI hR hst
        go_wp2
        exact ⟨rfl, _, rfl, rfl, HI.out, fun _ _ h => h⟩
      · refine Owes.mk _ rfl rfl (fun _ _ h => by cases h) fun u m w' hm hI hR => ⟨⟨#[undef, undef, undef, undef, undef, undef, undef, undef, undef, undef, undef, undef, undef, undef, undef, undef, undef, undef, undef, undef, undef, undef, undef, u 1, undef, undef, undef], []⟩, rfl, fun d hd => by cases hd; exact (by decide : 24 < 27), ?_⟩
        have e1 : u 1 = _ := hR 1 (by decide)
        rw [e1]
        clear e1 hR
        go_wp2_with fail
        refine (toIn_any x _ _ _ fp0 fp1 fp2 HS.out _ (Ge0.out.below boolR_fits hI) (Ge1.out.below boolR_fits hI) (Ge2.out.below boolR_fits hI)).mono ?_
        rintro e w2 ⟨v'0, fq0, v'1, fq1, v'2, fq2, rfl, g20, g21, g22, n2, b2⟩
        have hs := facts_stable hst (b2.chg [])
        have HF := Lib.hid (show (FTo x) _ w2 from ⟨v'0, fq0, v'1, fq1, v'2, fq2, rfl, g20, g21, g22⟩)
        have HS := Lib.hid hs
        have HI := Lib.hid (hI.trans (b2.mono hI.size))
        clear hs hI b2 hst g20 g21 g22 n2
        go_wp2
        exact ⟨rfl, _, rfl, HF.out, HI.out, HS.out⟩
      · refine Owes.mk _ rfl rfl (fun _ _ h => by cases h) fun u m w' hm hI hR => ⟨⟨#[undef, undef, undef, undef, undef, undef, undef, undef, undef, undef, undef, undef, undef, undef, undef, undef, undef, undef, undef, undef, undef, undef, u 0, undef, u 2, undef, undef], []⟩, rfl, fun d hd => by cases hd; exact (by decide : 25 < 27), ?_⟩
        have e0 : u 0 = _ := hR 0 (by decide)
        obtain ⟨v20, fq20, v21, fq21, v22, fq22, e2, g20, g21, g22⟩ := hR 2 (by decide)
        rw [e0, e2]
        clear e0 e2 hR
        go_wp2_with fail
        refine (eqIn_any x x _ _ _ _ _ _ _ _ _ _ _ _ _ (X50.out.below boolR_fits hI) (X51.out.below boolR_fits hI) (X52.out.below boolR_fits hI) g20 g21 g22).mono ?_
        rw [decide_eq_true rfl]
        rintro e w2 ⟨rfl, b2⟩
        have hs := facts_stable hst (b2.chg [])
        have HS := Lib.hid hs
        have HI := Lib.hid (hI.trans (b2.mono hI.size))
        clear hs hI b2 hst g20 g21 g22
        go_wp2
        exact ⟨rfl, _, rfl, rfl, HI.out, HS.out⟩
      · refine Owes.mk _ rfl rfl (fun _ _ h => by cases h) fun u m w' hm hI hR => ⟨⟨#[undef, undef, undef, undef, undef, undef, undef, undef, undef, undef, undef, undef, undef, undef, undef, undef, undef, undef, undef, undef, undef, undef, undef, undef, undef, u 3, undef], []⟩, rfl, fun d hd => by cases hd; exact (by decide : 26 < 27), ?_⟩
        have e3 : u 3 = _ := hR 3 (by decide)
        rw [e3]
        have HI := Lib.hid hI
        clear e3 hR hI hst
        go_wp2
        exact ⟨rfl, _, rfl, rfl, HI.out, fun _ _ h => h⟩
    case hend =>
      intro u w' hI hR
      simp only [setAll, List.set_cons_zero, List.set_cons_succ]
      have e4 : u 4 = _ := hR 4 (by decide)
      have HE := Lib.hid hI
      clear hR hI hst
      simp only [Nat.zero_add, Nat.reduceAdd]
      rw [e4]
      clear e4
      go_wp2
      go_ret
      exact ⟨rfl, B5.out.trans (HE.out.mono B5.out.size)⟩

set_option maxRecDepth 100000 in
theorem lifted (os : Os) (started : os.Started) (H : Type) (enc : TypeId × Value → H) :
    ReturnsInHanded {} Try.checked os 9 .any (Rows.fnExactInOkSpec.pre6 enc Try.prog Try.f9 Rows.fnExactInOkRow.domain false) (Rows.fnExactInOkSpec.post enc Try.prog Try.f9 false true false false) := by
  refine returnsInHanded_of_change (C := Try.checked) own started (by kernel_rfl) Try.func9
    (ChangeSpec.witness6 (enc := enc) (C := Try.checked) false ⟨#[], #[.agg #[.slice none 0 0, .slice none 0 0, .slice none 0 0]], []⟩ 8 (by kernel_rfl) (by kernel_rfl) (by kernel_rfl) (by kernel_rfl)) ?_
  intro W base args ds gs before hval0 hW hcnd _
  have hval : ∀ (j : Nat) t v, Try.f9.params[j]? = some t → args[j]? = some v → Value.okWide Try.prog W .any base t v := hval0
  have hW' := hW
  obtain ⟨p, q, hA0, hV, rfl, hfz, hnd⟩ := hW
  have hA : DataW.TrodAll enc Try.prog W 0 (fun _ => true) true Try.f9.params.toList args.toList ds p := hA0
  rw [Try.params9] at hA hval
  obtain ⟨v0, vs0, d0, ds0, p0, q0, hargs, rfl, rfl, h0, r0⟩ := trodAll_cons hA
  obtain ⟨rfl, rfl, rfl⟩ := trodAll_nil r0
  obtain rfl : args = #[v0] := by cases args; simp_all
  obtain ⟨rfl, rfl⟩ := trodVars_none hV
  clear hA0 hval0
  simp only [List.append_nil] at hW'
  have hlt0 : ∀ x ∈ p0, x.block < W.heap.size := fun x hx => by simpa using hW'.lt x (by simp [hx])
  have hk0 := h0
  obtain ⟨cs0, rfl, _⟩ := okWide_struct Try.underlying41 (hval 0 41 v0 rfl rfl)
  obtain ⟨fuel0, hf0⟩ := h0
  obtain ⟨x0, fp0, g0⟩ := opens_cycIn hf0
  replace g0 : cycInR W x0 cs0.toList fp0 := g0
  refine (walk cs0 x0 fp0 W g0).mono fun e W' ⟨he, hb⟩ => ?_
  subst he
  exact ⟨_, rfl, _, _, _, [], _, [], hW', (trodAll_cons_mk (shut_bool Try.underlying4 _) trodAll_mk0), (trodAll_cons_mk (Below.trod laidOut (by kernel_rfl) (of_decide_eq_true (by kernel_rfl)) hk0 hb hlt0) trodAll_mk0), rfl, hb.frame _, fun h => by cases h⟩

theorem over : Rows.fnExactInOkRow.holds Try.pinned (OpenSpec.ofChange Rows.fnExactInOkSpec) :=
  OpenClaim.holds_of_wide 9 Try.f9 rfl rfl rfl rfl rfl rfl rfl ⟨rfl, rfl, rfl, rfl, rfl⟩ rfl rfl rfl rfl rfl (by kernel_rfl) Try.func9 (by kernel_rfl)
    (of_decide_eq_true (by kernel_rfl)) (by unfold Func.isWrapper; first | (rw [if_pos (by decide +kernel)]; kernel_rfl) | (rw [if_neg (by decide +kernel)]; exact ⟨rfl, rfl⟩))
    (fun os started H enc _ => lifted os started H enc)

theorem proved : Rows.FnExactInOkSaid :=
  over
#print axioms proved
end Go.Proofs.Ytmnjoogaiokhkaa.fnExactInOk
