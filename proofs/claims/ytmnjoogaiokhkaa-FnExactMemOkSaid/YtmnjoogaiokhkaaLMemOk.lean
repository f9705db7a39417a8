/-
  Proved: the Go function laws.FnExactMemOk returns true for every argument, and the argument reads afterwards as before: the program's MemOk answers as the reference's.
  Conditions: none.
-/
import Derived.Test.YtmnjoogaiokhkaaLift
import Derived.Test.YtmnjoogaiokhkaaMemIn
import Derived.Test.YtmnjoogaiokhkaaOk
import Derived.Test.YtmnjoogaiokhkaaFacts
namespace Go.Proofs.Ytmnjoogaiokhkaa.fnExactMemOk
set_option linter.unusedVariables false
open Go.ChangeShapes Go.WideShapes Go.ChangeAt Go.RowKit

theorem sMemOk2 (x : List Int) (v : Value) (fp : List Nat) (w : World) (g : IntS w x v fp) :
    Calls Try.prog 38 #[.agg #[v]] w fun e w' => e = .returned (.bool (memOk x)) ∧ Below w.heap.size w w' := sMemOk_any v x fp w g
theorem iMemOk2 (x : List Int) (v : Value) (fp : List Nat) (w : World) (g : IntS w x v fp) :
    Calls Try.prog 40 #[.agg #[v]] w fun e w' => e = .returned (.bool (memOk x)) ∧ Below w.heap.size w w' := iMemOk_any v x fp w g

def FTo (x : (List Int)) : Fact := fun v w => ∃ (v'0 : Value) (fq0 : List Nat), v = .agg #[v'0] ∧ SlR 1 intR w x v'0 fq0
theorem stTo (x : (List Int)) : Stable [] (FTo x) := fun _ _ _ ⟨v'0, fq0, e, h0⟩ hc => ⟨v'0, fq0, e, h0.chg intR_fits hc (fun _ _ => by simp)⟩

set_option maxHeartbeats 1600000 in
theorem walk (cs : Array Value) (x : (List Int)) (fp : List Nat) (w : World) (g0 : memR w x cs.toList fp) :
    Calls Try.prog 11 #[.agg cs] w fun e w' => e = .returned (.bool true) ∧ Below w.heap.size w w' := by
  obtain ⟨cs⟩ := cs
  obtain ⟨v0, fp0, e, _, g0⟩ := g0
  obtain rfl : cs = [v0] := e
  have hb := below_alloc w (.cells #[v0] 50)
  have GA0 := Lib.hid (SlR.below intR_fits g0 hb)
  have B0 := Lib.hid hb
  clear hb
  by_cases hsz : szR 1048576 x.length < 0
  · have HN := Lib.hid (szR_neg hsz)
    clear hsz g0
    go_enter Try.func11, Try.ntmps11
    go_wp2_with fail
    refine (szMem_any x v0 fp0 1048576 (by omega) (by omega) _ GA0.out).mono ?_
    rw [HN.out]
    rintro e w1 ⟨rfl, b1⟩
    have B1 := Lib.hid (B0.out.trans (b1.mono B0.out.size))
    clear b1
    go_wp2
    go_ret
    exact ⟨rfl, B1.out⟩
  · have hs := szMem_ok (by omega : 0 ≤ szR 1048576 x.length)
    have hpos : 0 ≤ szR 1048576 x.length := by omega
    generalize hz : szR 1048576 x.length = z at *
    have HZ := Lib.hid hz
    have HS := Lib.hid hs
    clear hz hs
    obtain ⟨al0, ln0, kn0, rfl⟩ := g0.form
    clear g0
    go_enter Try.func11, Try.ntmps11
    go_wp2_with fail
    refine (szMem_any x _ fp0 1048576 (by omega) (by omega) _ GA0.out).mono ?_
    rw [HZ.out]
    rintro e w1 ⟨rfl, b1⟩
    have p0 := keep_cell b1 (alloc1_new w _ _ 0 rfl)
    have Ga0 := Lib.hid (GA0.out.below intR_fits b1)
    have B1 := Lib.hid (B0.out.trans (b1.mono B0.out.size))
    clear b1 B0 GA0
    go_wp2_with fail
    refine (toMem_any x _ fp0 HS.out _ Ga0.out).mono ?_
    rintro e w2 ⟨v20, fp20, rfl, g20, n2, b2⟩
    have q0 := keep_cell b2 p0
    have Gb0 := Lib.hid (Ga0.out.below intR_fits b2)
    have X20 := Lib.hid g20
    have B2 := Lib.hid (B1.out.trans (b2.mono B1.out.size))
    clear b2 n2 B1 g20 Ga0 p0
    go_wp2_with fail
    refine (sMemOk2 x _ fp20 _ X20.out).mono ?_
    rintro e w3 ⟨rfl, b3⟩
    have p0 := keep_cell b3 q0
    have Gc0 := Lib.hid (Gb0.out.below intR_fits b3)
    have B3 := Lib.hid (B2.out.trans (b3.mono B2.out.size))
    clear b3 B2 Gb0 X20 q0
    go_wp2_with fail
    refine (toMem_any x _ fp0 HS.out _ Gc0.out).mono ?_
    rintro e w4 ⟨v40, fp40, rfl, g40, n4, b4⟩
    obtain ⟨a40, l40, k40, rfl⟩ := g40.form
    have q0 := keep_cell b4 p0
    have ba := below_alloc w4 (.cells #[.slice a40 l40 k40] 28)
    have Gd0 := Lib.hid ((Gc0.out.below intR_fits b4).below intR_fits ba)
    have X40 := Lib.hid (g40.below intR_fits ba)
    have B4 := Lib.hid ((B3.out.trans (b4.mono B3.out.size)).trans (ba.mono (Nat.le_trans B3.out.size b4.size)))
    have z0 := block_of_cell q0
    clear b4 n4 ba B3 g40 Gc0 p0
    go_wp2_with fail
    refine (iMemOk2 x _ fp40 _ X40.out).mono ?_
    rintro e w5 ⟨rfl, b5⟩
    have p0 := keep_cell b5 (alloc_keep q0 _)
    have r0 := keep_cell b5 (alloc1_new w4 _ _ 0 rfl)
    have Ge0 := Lib.hid (Gd0.out.below intR_fits b5)
    have X50 := Lib.hid (X40.out.below intR_fits b5)
    have B5 := Lib.hid (B4.out.trans (b5.mono B4.out.size))
    clear b5 B4 z0 Gd0 X40 q0
    go_wp2_with fail
    have hst : ∀ F, F ∈ [FEq (.agg #[.slice a40 l40 k40]), FEq (.agg #[.slice al0 ln0 kn0]), (FTo x), FEq (.bool true), FEq (.bool false)] → Stable [] F := by
      simp only [List.forall_mem_cons]
      exact ⟨stEq _ _, stEq _ _, stTo _, stEq _ _, stEq _ _, fun _ h => by simp at h⟩
    refine wp_region_rule (by kernel_rfl) (fun i => ([[], [], [1], [0, 1, 2], [0, 1, 2, 3]] : List (List Nat)).getD i []) (facts [FEq (.agg #[.slice a40 l40 k40]), FEq (.agg #[.slice al0 ln0 kn0]), (FTo x), FEq (.bool true), FEq (.bool false)]) (fun _ w' => Below w5.heap.size w5 w') 27 5 [some 22, some 23, some 24, some 25, some 26] rfl rfl rfl (by kernel_rfl) ?h0 (all_lt (n := 5) ?hop) ?hend
    case h0 => exact (Below.refl _ _).drew
    case hop =>
      refine ⟨⟨⟨⟨⟨trivial, ?_⟩, ?_⟩, ?_⟩, ?_⟩, ?_⟩
      · refine Owes.mk _ rfl rfl (fun _ _ h => by cases h) fun u m w' hm hI hR => ⟨⟨#[undef, undef, undef, undef, undef, .pointer (some ⟨w4.heap.size, 0, none⟩), undef, undef, undef, undef, undef, undef, undef, undef, undef, undef, undef, undef, undef, undef, undef, undef, undef, undef, undef, undef, undef], []⟩, rfl, fun d hd => by cases hd; exact (by decide : 22 < 27), ?_⟩
        have k0 := keep_cell hI r0
        have HI := Lib.hid hI
        clear hI hR hst
        go_wp2
        exact ⟨rfl, _, rfl, rfl, HI.out, fun _ _ h => h⟩
      · refine Owes.mk _ rfl rfl (fun _ _ h => by cases h) fun u m w' hm hI hR => ⟨⟨#[undef, .pointer (some ⟨w.heap.size, 0, none⟩), undef, undef, undef, undef, undef, undef, undef, undef, undef, undef, undef, undef, undef, undef, undef, undef, undef, undef, undef, undef, undef, undef, undef, undef, undef], []⟩, rfl, fun d hd => by cases hd; exact (by decide : 23 < 27), ?_⟩
        have k0 := keep_cell hI p0
        have HI := Lib.hid hI
        clear hI hR hst
        go_wp2
        exact ⟨rfl, _, rfl, rfl, HI.out, fun _ _ h => h⟩
      · refine Owes.mk _ rfl rfl (fun _ _ h => by cases h) fun u m w' hm hI hR => ⟨⟨#[undef, undef, undef, undef, undef, undef, undef, undef, undef, undef, undef, undef, undef, undef, undef, undef, undef, undef, undef, undef, undef, undef, undef, u 1, undef, undef, undef], []⟩, rfl, fun d hd => by cases hd; exact (by decide : 24 < 27), ?_⟩
        have e1 : u 1 = _ := hR 1 (by decide)
        rw [e1]
        clear e1 hR
        go_wp2_with fail
        refine (toMem_any x _ fp0 HS.out _ (Ge0.out.below intR_fits hI)).mono ?_
        rintro e w2 ⟨v'0, fq0, rfl, g20, n2, b2⟩
        have hs := facts_stable hst (b2.chg [])
        have HF := Lib.hid (show (FTo x) _ w2 from ⟨v'0, fq0, rfl, g20⟩)
        have HS := Lib.hid hs
        have HI := Lib.hid (hI.trans (b2.mono hI.size))
        clear hs hI b2 hst g20 n2
        go_wp2
        exact ⟨rfl, _, rfl, HF.out, HI.out, HS.out⟩
      · refine Owes.mk _ rfl rfl (fun _ _ h => by cases h) fun u m w' hm hI hR => ⟨⟨#[undef, undef, undef, undef, undef, undef, undef, undef, undef, undef, undef, undef, undef, undef, undef, undef, undef, undef, undef, undef, undef, undef, u 0, undef, u 2, undef, undef], []⟩, rfl, fun d hd => by cases hd; exact (by decide : 25 < 27), ?_⟩
        have e0 : u 0 = _ := hR 0 (by decide)
        obtain ⟨v20, fq20, e2, g20⟩ := hR 2 (by decide)
        rw [e0, e2]
        clear e0 e2 hR
        go_wp2_with fail
        refine (eqMem_any2 x x _ _ _ _ _ (X50.out.below intR_fits hI) g20).mono ?_
        rw [decide_eq_true rfl]
        rintro e w2 ⟨rfl, b2⟩
        have hs := facts_stable hst (b2.chg [])
        have HS := Lib.hid hs
        have HI := Lib.hid (hI.trans (b2.mono hI.size))
        clear hs hI b2 hst g20
        go_wp2
        exact ⟨rfl, _, rfl, rfl, HI.out, HS.out⟩
      · refine Owes.mk _ rfl rfl (fun _ _ h => by cases h) fun u m w' hm hI hR => ⟨⟨#[undef, undef, undef, undef, undef, undef, undef, undef, undef, undef, undef, undef, undef, undef, undef, undef, undef, undef, undef, undef, undef, undef, undef, undef, undef, u 3, undef], []⟩, rfl, fun d hd => by cases hd; exact (by decide : 26 < 27), ?_⟩
        have e3 : u 3 = _ := hR 3 (by decide)
        rw [e3]
        have HI := Lib.hid hI
        clear e3 hR hI hst
        go_wp2
        exact ⟨rfl, _, rfl, rfl, HI.out, fun _ _ h => h⟩
    case hend =>
      intro u w' hI hR
      simp only [setAll, List.set_cons_zero, List.set_cons_succ]
      have e4 : u 4 = _ := hR 4 (by decide)
      have HE := Lib.hid hI
      clear hR hI hst
      simp only [Nat.zero_add, Nat.reduceAdd]
      rw [e4]
      clear e4
      go_wp2
      go_ret
      exact ⟨rfl, B5.out.trans (HE.out.mono B5.out.size)⟩

set_option maxRecDepth 100000 in
theorem lifted (os : Os) (started : os.Started) (H : Type) (enc : TypeId × Value → H) :
    ReturnsInHanded {} Try.checked os 11 .any (Rows.fnExactMemOkSpec.pre6 enc Try.prog Try.f11 Rows.fnExactMemOkRow.domain false) (Rows.fnExactMemOkSpec.post enc Try.prog Try.f11 false true false false) := by
  refine returnsInHanded_of_change (C := Try.checked) own started (by kernel_rfl) Try.func11
    (ChangeSpec.witness6 (enc := enc) (C := Try.checked) false ⟨#[], #[.agg #[.slice none 0 0]], []⟩ 8 (by kernel_rfl) (by kernel_rfl) (by kernel_rfl) (by kernel_rfl)) ?_
  intro W base args ds gs before hval0 hW hcnd _
  have hval : ∀ (j : Nat) t v, Try.f11.params[j]? = some t → args[j]? = some v → Value.okWide Try.prog W .any base t v := hval0
  have hW' := hW
  obtain ⟨p, q, hA0, hV, rfl, hfz, hnd⟩ := hW
  have hA : DataW.TrodAll enc Try.prog W 0 (fun _ => true) true Try.f11.params.toList args.toList ds p := hA0
  rw [Try.params11] at hA hval
  obtain ⟨v0, vs0, d0, ds0, p0, q0, hargs, rfl, rfl, h0, r0⟩ := trodAll_cons hA
  obtain ⟨rfl, rfl, rfl⟩ := trodAll_nil r0
  obtain rfl : args = #[v0] := by cases args; simp_all
  obtain ⟨rfl, rfl⟩ := trodVars_none hV
  clear hA0 hval0
  simp only [List.append_nil] at hW'
  have hlt0 : ∀ x ∈ p0, x.block < W.heap.size := fun x hx => by simpa using hW'.lt x (by simp [hx])
  have hk0 := h0
  obtain ⟨cs0, rfl, _⟩ := okWide_struct Try.underlying50 (hval 0 50 v0 rfl rfl)
  obtain ⟨fuel0, hf0⟩ := h0
  obtain ⟨x0, fp0, g0⟩ := opens_mem hf0
  replace g0 : memR W x0 cs0.toList fp0 := g0
  refine (walk cs0 x0 fp0 W g0).mono fun e W' ⟨he, hb⟩ => ?_
  subst he
  exact ⟨_, rfl, _, _, _, [], _, [], hW', (trodAll_cons_mk (shut_bool Try.underlying4 _) trodAll_mk0), (trodAll_cons_mk (Below.trod laidOut (by kernel_rfl) (of_decide_eq_true (by kernel_rfl)) hk0 hb hlt0) trodAll_mk0), rfl, hb.frame _, fun h => by cases h⟩

theorem over : Rows.fnExactMemOkRow.holds Try.pinned (OpenSpec.ofChange Rows.fnExactMemOkSpec) :=
  OpenClaim.holds_of_wide 11 Try.f11 rfl rfl rfl rfl rfl rfl rfl ⟨rfl, rfl, rfl, rfl, rfl⟩ rfl rfl rfl rfl rfl (by kernel_rfl) Try.func11 (by kernel_rfl)
    (of_decide_eq_true (by kernel_rfl)) (by unfold Func.isWrapper; first | (rw [if_pos (by decide +kernel)]; kernel_rfl) | (rw [if_neg (by decide +kernel)]; exact ⟨rfl, rfl⟩))
    (fun os started H enc _ => lifted os started H enc)

theorem proved : Rows.FnExactMemOkSaid :=
  over
#print axioms proved
end Go.Proofs.Ytmnjoogaiokhkaa.fnExactMemOk
