/-
  Proved: the Go function laws.FnExactAdrBurst returns true for all arguments, and the arguments read afterwards as before: the program's AdrBurst answers as the reference's, in new memory.
  Conditions: none.
-/
import Derived.Test.YtmnjoogaiokhkaaLift
import Derived.Test.YtmnjoogaiokhkaaBurst
import Derived.Test.YtmnjoogaiokhkaaInts
import Derived.Test.YtmnjoogaiokhkaaMem
namespace Go.Proofs.Ytmnjoogaiokhkaa.fnExactAdrBurst
set_option linter.unusedVariables false
open Go.ChangeShapes Go.WideShapes Go.ChangeAt Go.RowKit

theorem adrBurst_len (a m : Int) (wr : Bool) : (adrBurst a m wr).length ≤ 4 := by
  unfold adrBurst
  split
  · rename_i h
    obtain ⟨_, _, hm, _⟩ := adrOk_true.1 h
    rw [burst_len]; omega
  · simp

theorem walk (a m : Int) (wr : Bool) (w : World) :
    Calls Try.prog 10 #[.int .i64 a, .int .i64 m, .bool wr] w fun e w' => e = .returned (.bool true) ∧ Below w.heap.size w w' := by
  have hlen := adrBurst_len a m wr
  go_enter Try.func10, Try.ntmps10
  go_wp2_with fail
  refine (sAdrBurst_any a m wr _).mono ?_
  rintro e w1 ⟨v0, fp0, rfl, g0, n0, b0⟩
  have G0 := Lib.hid g0
  have B0 := Lib.hid b0
  clear g0 n0 b0
  go_wp2_with fail
  refine (iAdrBurst_any a m wr _).mono ?_
  rintro e w2 ⟨v1, fp1, rfl, g1, n1, b1⟩
  have f1 := g1.lt intR_fits
  have D := Lib.hid (fun b (h : b ∈ fp0) (h' : b ∈ fp1) => by have h2 := n1.lo _ h'; have h3 := G0.out.lt intR_fits b h; omega : ∀ b, b ∈ fp0 → b ∉ fp1)
  have LO := Lib.hid (fun b (hb : b ∈ fp1) => Nat.le_trans B0.out.size (n1.lo b hb))
  have G0' := Lib.hid (G0.out.below intR_fits b1)
  have G1 := Lib.hid g1
  have F1 := Lib.hid n1.free
  have B1 := Lib.hid (B0.out.trans (b1.mono B0.out.size))
  clear g1 n1 b1 B0 G0 f1
  go_wp2_with fail
  refine (eqIntS_any _ _ _ _ _ _ _ G1.out G0'.out).mono ?_
  rintro e w3 ⟨rfl, n, rfl⟩
  go_wp2_with fail
  refine (markIntS_any _ _ _ _ (by omega) (by omega) (by omega) _ (G1.out.below intR_fits (below_drewN (Below.refl _ _) n)) F1.out).mono ?_
  rintro e w4 ⟨rfl, g1, c1, f1⟩
  have G0 := Lib.hid ((G0'.out.below intR_fits (below_drewN (Below.refl _ _) n)).chg intR_fits c1 D.out)
  have C1 := Lib.hid (((B1.out.chg fp1).drewN n).trans' c1)
  generalize hk : (adrBurst a m wr).length = k at *
  have HK := Lib.hid hk
  have G2 := Lib.hid g1
  clear g1 c1 f1 G0' G1 F1 B1 hk
  go_wp2_with fail
  refine (heldIntS_any _ _ _ _ (by omega) (by omega) (by rw [marks_len]; omega) _ G2.out).mono ?_
  rw [heldR_marks]
  rintro e w5 ⟨rfl, rfl⟩
  go_wp2_with fail
  refine (iAdrBurst_any a m wr _).mono ?_
  rintro e w6 ⟨v2, fp2, rfl, g2, n2, b6⟩
  have G3 := Lib.hid g2
  have G0' := Lib.hid (G0.out.below intR_fits b6)
  have G2' := Lib.hid (G2.out.below intR_fits b6)
  have C2 := Lib.hid (C1.out.trans' (b6.chg fp1))
  clear g2 n2 b6 G0 G2 C1
  go_wp2_with fail
  refine (eqIntS_any _ _ _ _ _ _ _ G3.out G0'.out).mono ?_
  rintro e w7 ⟨rfl, n', rfl⟩
  go_wp2_with fail
  refine (heldIntS_any _ _ _ _ (by omega) (by omega) (by rw [marks_len]; omega) _ (G2'.out.below intR_fits (below_drewN (Below.refl _ _) n'))).mono ?_
  rw [heldR_marks]
  rintro e w8 ⟨rfl, rfl⟩
  have C3 := Lib.hid ((C2.out.drewN n').home LO.out)
  clear C2 G2' G0' G3
  go_wp2
  go_ret
  exact ⟨rfl, C3.out⟩

set_option maxRecDepth 100000 in
theorem lifted (os : Os) (started : os.Started) (H : Type) (enc : TypeId × Value → H) :
    ReturnsInHanded {} Try.checked os 10 .any (Rows.fnExactAdrBurstSpec.pre6 enc Try.prog Try.f10 Rows.fnExactAdrBurstRow.domain false) (Rows.fnExactAdrBurstSpec.post enc Try.prog Try.f10 false true false false) := by
  refine returnsInHanded_of_change (C := Try.checked) own started (by kernel_rfl) Try.func10
    (ChangeSpec.witness6 (enc := enc) (C := Try.checked) false ⟨#[], #[.int .i64 0, .int .i64 0, .bool false], []⟩ 8 (by kernel_rfl) (by kernel_rfl) (by kernel_rfl) (by kernel_rfl)) ?_
  intro W base args ds gs before hval0 hW hcnd _
  have hval : ∀ (j : Nat) t v, Try.f10.params[j]? = some t → args[j]? = some v → Value.okWide Try.prog W .any base t v := hval0
  have hW' := hW
  obtain ⟨p, q, hA0, hV, rfl, hfz, hnd⟩ := hW
  have hA : DataW.TrodAll enc Try.prog W 0 (fun _ => true) true Try.f10.params.toList args.toList ds p := hA0
  rw [Try.params10] at hA hval
  obtain ⟨v0, vs0, d0, ds0, p0, q0, hargs, rfl, rfl, h0, r0⟩ := trodAll_cons hA
  obtain ⟨v1, vs1, d1, ds1, p1, q1, rfl, rfl, rfl, h1, r1⟩ := trodAll_cons r0
  obtain ⟨v2, vs2, d2, ds2, p2, q2, rfl, rfl, rfl, h2, r2⟩ := trodAll_cons r1
  obtain ⟨rfl, rfl, rfl⟩ := trodAll_nil r2
  obtain rfl : args = #[v0, v1, v2] := by cases args; simp_all
  obtain ⟨rfl, rfl⟩ := trodVars_none hV
  clear hA0 hval0
  simp only [List.append_nil] at hW'
  obtain ⟨a0, rfl, rfl, rfl, w0⟩ := open_int Try.underlying3 (hval 0 3 v0 rfl rfl) h0
  obtain ⟨a1, rfl, rfl, rfl, w1⟩ := open_int Try.underlying3 (hval 1 3 v1 rfl rfl) h1
  obtain ⟨a2, rfl, rfl, rfl⟩ := open_bool Try.underlying4 (hval 2 4 v2 rfl rfl) h2
  refine (walk a0 a1 a2 W ).mono fun e W' ⟨he, hb⟩ => ?_
  subst he
  exact ⟨_, rfl, _, _, _, [], _, [], hW', (trodAll_cons_mk (shut_bool Try.underlying4 _) trodAll_mk0), (trodAll_cons_mk (shut_int Try.underlying3 w0) (trodAll_cons_mk (shut_int Try.underlying3 w1) (trodAll_cons_mk (shut_bool Try.underlying4 _) trodAll_mk0))), rfl, hb.frame _, fun h => by cases h⟩

theorem over : Rows.fnExactAdrBurstRow.holds Try.pinned (OpenSpec.ofChange Rows.fnExactAdrBurstSpec) :=
  OpenClaim.holds_of_wide 10 Try.f10 rfl rfl rfl rfl rfl rfl rfl ⟨rfl, rfl, rfl, rfl, rfl⟩ rfl rfl rfl rfl rfl (by kernel_rfl) Try.func10 (by kernel_rfl)
    (of_decide_eq_true (by kernel_rfl)) (by unfold Func.isWrapper; first | (rw [if_pos (by decide +kernel)]; kernel_rfl) | (rw [if_neg (by decide +kernel)]; exact ⟨rfl, rfl⟩))
    (fun os started H enc _ => lifted os started H enc)

theorem proved : Rows.FnExactAdrBurstSaid :=
  over
#print axioms proved
end Go.Proofs.Ytmnjoogaiokhkaa.fnExactAdrBurst
