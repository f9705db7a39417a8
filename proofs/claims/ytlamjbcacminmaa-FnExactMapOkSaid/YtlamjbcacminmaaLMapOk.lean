/-
  Proved: the Go function laws.FnExactMapOk returns true for all arguments, and the arguments read afterwards as before: the program's MapOk answers as the reference's.
  Conditions: none.
-/
import Derived.Test.YtlamjbcacminmaaLift
import Derived.Test.YtlamjbcacminmaaMapEq
import Derived.Test.YtlamjbcacminmaaMapOk
namespace Go.Proofs.Ytlamjbcacminmaa.fnExactMapOk
set_option linter.unusedVariables false
open Go.ChangeShapes Go.WideShapes Go.ChangeAt Go.RowKit

theorem walk (v : Value) (x : List MR) (fp : List Nat) (w : World) (g : SlR 4 mrR w x v fp) :
    Calls Try.prog 3 #[v] w fun e w' => e = .returned (.bool true) ∧ Below w.heap.size w w' := by
  have G := Lib.hid g
  by_cases hs : x.length ≤ 1048576
  · have hz : szR 1048576 x.length = 1048576 - x.length := by unfold szR; rw [if_neg (by omega)]
    have hz2 : decide (1048576 - (x.length : Int) < 0) = false := decide_eq_false (by omega)
    have HZ := Lib.hid hz
    clear g hz
    go_enter Try.func3, Try.ntmps3
    go_wp2_with fail
    refine (szMrS_any v x fp 1048576 (by omega) (by omega) _ G.out).mono ?_
    rw [HZ.out]
    rintro e w' ⟨rfl, rfl⟩
    go_wp2_with fail
    refine (toMrS_any v x fp hs _ G.out).mono ?_
    rintro e w1 ⟨v1, f1, rfl, g1, n1, b1⟩
    obtain ⟨a1, l1, k1, rfl⟩ := g1.form
    have G1 := Lib.hid g1
    have Ga := Lib.hid (SlR.below mrR_fits G.out b1)
    have B1 := Lib.hid b1
    clear g1 n1 b1
    go_wp2_with fail
    refine (sMapOk_any _ x f1 _ G1.out).mono ?_
    rintro e w2 ⟨rfl, b2⟩
    have Gb := Lib.hid (SlR.below mrR_fits Ga.out b2)
    have B2 := Lib.hid (B1.out.trans (b2.mono B1.out.size))
    clear b2 B1 Ga
    go_wp2_with fail
    refine (toMrS_any v x fp hs _ Gb.out).mono ?_
    rintro e w3 ⟨v3, f3, rfl, g3, n3, b3⟩
    obtain ⟨a3, l3, k3, rfl⟩ := g3.form
    have G3 := Lib.hid g3
    have Gc := Lib.hid (SlR.below mrR_fits Gb.out b3)
    have B3 := Lib.hid (B2.out.trans (b3.mono B2.out.size))
    clear g3 n3 b3 B2 Gb
    go_wp2_with fail
    refine (iMapOk_any _ x f3 _ G3.out).mono ?_
    rintro e w4 ⟨rfl, b4⟩
    have Gd := Lib.hid (SlR.below mrR_fits Gc.out b4)
    have G4 := Lib.hid (SlR.below mrR_fits G3.out b4)
    have B4 := Lib.hid (B3.out.trans (b4.mono B3.out.size))
    clear b4 B3 Gc G3
    go_wp2_with fail
    refine (toMrS_any v x fp hs _ Gd.out).mono ?_
    rintro e w5 ⟨v5, f5, rfl, g5, n5, b5⟩
    obtain ⟨a5, l5, k5, rfl⟩ := g5.form
    have G5 := Lib.hid g5
    have G6 := Lib.hid (SlR.below mrR_fits G4.out b5)
    have B5 := Lib.hid (B4.out.trans (b5.mono B4.out.size))
    clear g5 n5 b5 B4 G4 Gd
    go_wp2_with fail
    refine (eqMrS_any _ _ x x f3 f5 _ G6.out G5.out).mono ?_
    rw [decide_eq_true rfl]
    rintro e w6 ⟨rfl, b6⟩
    have B6 := Lib.hid (B5.out.trans (b6.mono B5.out.size))
    clear b6 B5
    go_wp2
    go_ret
    exact ⟨rfl, B6.out⟩
  · have hz : szR 1048576 x.length = -1 := by unfold szR; rw [if_pos (by omega)]
    have HZ := Lib.hid hz
    clear g hz
    go_enter Try.func3, Try.ntmps3
    go_wp2_with fail
    refine (szMrS_any v x fp 1048576 (by omega) (by omega) _ G.out).mono ?_
    rw [HZ.out]
    rintro e w' ⟨rfl, rfl⟩
    go_wp2
    go_ret
    exact ⟨rfl, Below.refl _ _⟩

set_option maxRecDepth 100000 in
theorem lifted (os : Os) (started : os.Started) (H : Type) (enc : TypeId × Value → H) :
    ReturnsInHanded {} Try.checked os 3 .any (Rows.fnExactMapOkSpec.pre6 enc Try.prog Try.f3 Rows.fnExactMapOkRow.domain false) (Rows.fnExactMapOkSpec.post enc Try.prog Try.f3 false true false false) := by
  refine returnsInHanded_of_change (C := Try.checked) own started (by kernel_rfl) Try.func3
    (ChangeSpec.witness6 (enc := enc) (C := Try.checked) false ⟨#[], #[.slice none 0 0], []⟩ 8 (by kernel_rfl) (by kernel_rfl) (by kernel_rfl) (by kernel_rfl)) ?_
  intro W base args ds gs before hval0 hW hcnd _
  have hval : ∀ (j : Nat) t v, Try.f3.params[j]? = some t → args[j]? = some v → Value.okWide Try.prog W .any base t v := hval0
  have hW' := hW
  obtain ⟨p, q, hA0, hV, rfl, hfz, hnd⟩ := hW
  have hA : DataW.TrodAll enc Try.prog W 0 (fun _ => true) true Try.f3.params.toList args.toList ds p := hA0
  rw [Try.params3] at hA hval
  obtain ⟨v0, vs0, d0, ds0, p0, q0, hargs, rfl, rfl, h0, r0⟩ := trodAll_cons hA
  obtain ⟨rfl, rfl, rfl⟩ := trodAll_nil r0
  obtain rfl : args = #[v0] := by cases args; simp_all
  obtain ⟨rfl, rfl⟩ := trodVars_none hV
  clear hA0 hval0
  simp only [List.append_nil] at hW'
  have hlt0 : ∀ x ∈ p0, x.block < W.heap.size := fun x hx => by simpa using hW'.lt x (by simp [hx])
  have hk0 := h0
  obtain ⟨ad0, len0, cap0, rfl⟩ := okWide_slice Try.underlying22 (hval 0 22 v0 rfl rfl)
  obtain ⟨fuel0, hf0⟩ := h0
  obtain ⟨x0, fp0, y0, e0, g0⟩ := opens_mrs hf0
  obtain rfl : .slice ad0 len0 cap0 = y0 := by simpa [Value.cells] using e0
  refine (walk (.slice ad0 len0 cap0) x0 fp0 W g0).mono fun e W' ⟨he, hb⟩ => ?_
  subst he
  exact ⟨_, rfl, _, _, _, [], _, [], hW', (trodAll_cons_mk (shut_bool Try.underlying4 _) trodAll_mk0), (trodAll_cons_mk (Below.trod laidOut (by kernel_rfl) (of_decide_eq_true (by kernel_rfl)) hk0 hb hlt0) trodAll_mk0), rfl, hb.frame _, fun h => by cases h⟩

theorem over : Rows.fnExactMapOkRow.holds Try.pinned (OpenSpec.ofChange Rows.fnExactMapOkSpec) :=
  OpenClaim.holds_of_wide 3 Try.f3 rfl rfl rfl rfl rfl rfl rfl ⟨rfl, rfl, rfl, rfl, rfl⟩ rfl rfl rfl rfl rfl (by kernel_rfl) Try.func3 (by kernel_rfl)
    (of_decide_eq_true (by kernel_rfl)) (by unfold Func.isWrapper; first | (rw [if_pos (by decide +kernel)]; kernel_rfl) | (rw [if_neg (by decide +kernel)]; exact ⟨rfl, rfl⟩))
    (fun os started H enc _ => lifted os started H enc)

theorem proved : Rows.FnExactMapOkSaid :=
  over
#print axioms proved
end Go.Proofs.Ytlamjbcacminmaa.fnExactMapOk
