/-
  Proved: the Go function laws.FnExactMemNew returns true: the program's MemNew answers as the reference's, in new memory.
  Conditions: none.
-/
import Derived.Test.YtmnjoogaiokhkaaLift
import Derived.Test.YtmnjoogaiokhkaaMem
namespace Go.Proofs.Ytmnjoogaiokhkaa.fnExactMemNew
open Go.ChangeShapes Go.WideShapes Go.ChangeAt Go.RowKit

theorem walk (w : World) :
    Calls Try.prog 6 #[] w fun e w' => e = .returned (.bool true) ∧ Below w.heap.size w w' := by
  go_enter Try.func6, Try.ntmps6
  go_wp2_with fail
  refine (sMemNew_any _).mono ?_
  rintro e w1 ⟨v0, fp0, rfl, g0, n0, b0⟩
  obtain ⟨a0, l0, c0, rfl⟩ := g0.form
  have f0 := g0.lt intR_fits
  have G0 := Lib.hid (g0.alloc intR_fits (.cells #[.slice a0 l0 c0] 28))
  have B0 := Lib.hid (b0.trans ((below_alloc w1 (.cells #[.slice a0 l0 c0] 28)).mono b0.size))
  clear g0 n0 b0
  go_wp2_with fail
  -- g0
  refine (iMemNew_any _).mono ?_
  rintro e w2 ⟨v1, fp1, rfl, g1, n1, b1⟩
  obtain ⟨a1, l1, c1, rfl⟩ := g1.form
  have e0 := keep_cell b1 (alloc_new w1 _ _)
  have z0 := block_of_cell e0
  have f1 := g1.lt intR_fits
  have m0 : w1.heap.size ∉ fp1 := fun h => by have := n1.lo _ h; simp at this; omega
  have m1 : w2.heap.size ∉ fp1 := fun h => by have := f1 _ h; omega
  have d : ∀ b, b ∈ fp0 → b ∉ fp1 := fun b h h' => by have h2 := n1.lo _ h'; have h3 := f0 b h; simp at h2; omega
  have G0' := Lib.hid ((G0.out.below intR_fits b1).alloc intR_fits (.cells #[.slice a1 l1 c1] 28))
  have G1 := Lib.hid (g1.alloc intR_fits (.cells #[.slice a1 l1 c1] 28))
  have F1 := Lib.hid (n1.free.below f1 (below_alloc w2 (.cells #[.slice a1 l1 c1] 28)))
  have B1 := Lib.hid ((B0.out.trans (b1.mono B0.out.size)).trans ((below_alloc w2 (.cells #[.slice a1 l1 c1] 28)).mono (Nat.le_trans B0.out.size b1.size)))
  have LO := Lib.hid (fun b (hb : b ∈ fp1) => Nat.le_trans B0.out.size (n1.lo b hb))
  have M0 := Lib.hid m0
  have M1 := Lib.hid m1
  have D := Lib.hid d
  clear g1 n1 b1 B0 G0 f0 f1 m0 m1 d
  go_wp2_with fail
  -- the first comparison
  refine (eqMem_any _ _ _ _ _ _ _ G1.out G0'.out).mono ?_
  rintro e w3 ⟨rfl, b2⟩
  have e0' := keep_cell b2 (alloc_keep e0 _)
  have e1' := keep_cell b2 (alloc_new w2 _ _)
  have F2 := Lib.hid (F1.out.below (G1.out.lt intR_fits) b2)
  have G0'' := Lib.hid (G0'.out.below intR_fits b2)
  have G1' := Lib.hid (G1.out.below intR_fits b2)
  have B2 := Lib.hid (B1.out.trans (b2.mono B1.out.size))
  clear b2 B1 G1 G0' F1 e0 z0
  go_wp2_with fail
  -- the marks
  refine (markMem_any _ _ _ _ (by omega) (by omega) (by simp) _ G1'.out F2.out).mono ?_
  rintro e w4 ⟨rfl, g1, c1, f1⟩
  have e0 := keep_cell_chg c1 e0' M0.out
  have e1 := keep_cell_chg c1 e1' M1.out
  have G1 := Lib.hid (show IntS w4 (marks 1 64) _ fp1 by simpa using g1)
  have G0 := Lib.hid (G0''.out.chg intR_fits c1 D.out)
  have C1 := Lib.hid ((B2.out.chg fp1).trans' c1)
  clear e0' e1' g1 c1 f1 G1' G0'' F2 B2
  go_wp2_with fail
  -- held
  refine (heldMem_any _ _ _ _ (by omega) (by omega) (by simp [marks_len]) _ G1.out).mono ?_
  rw [heldR_marks]
  rintro e w5 ⟨rfl, b5⟩
  have e0' := keep_cell b5 e0
  have e1' := keep_cell b5 e1
  have G1' := Lib.hid (G1.out.below intR_fits b5)
  have G0' := Lib.hid (G0.out.below intR_fits b5)
  have C2 := Lib.hid (C1.out.trans' (b5.chg fp1))
  clear b5 G1 G0 C1 e0 e1
  go_wp2_with fail
  -- once more
  refine (iMemNew_any _).mono ?_
  rintro e w6 ⟨v2, fp2, rfl, g2, n2, b6⟩
  obtain ⟨a2, l2, c2, rfl⟩ := g2.form
  have e0 := keep_cell b6 e0'
  have e1 := keep_cell b6 e1'
  have z0 := block_of_cell e0
  have z1 := block_of_cell e1
  have ba := below_alloc w6 (.cells #[.slice a2 l2 c2] 28)
  have G0 := Lib.hid ((G0'.out.below intR_fits b6).below intR_fits ba)
  have G1 := Lib.hid ((G1'.out.below intR_fits b6).below intR_fits ba)
  have G2 := Lib.hid (g2.below intR_fits ba)
  have C3 := Lib.hid ((C2.out.trans' (b6.chg fp1)).trans' (ba.chg fp1))
  clear g2 n2 b6 ba G0' G1' C2 e0' e1'
  go_wp2_with fail
  refine (eqMem_any _ _ _ _ _ _ _ G2.out G0.out).mono ?_
  rintro e w7 ⟨rfl, b7⟩
  have e0' := keep_cell b7 (alloc_keep e0 _)
  have e1' := keep_cell b7 (alloc_keep e1 _)
  have G1' := Lib.hid (G1.out.below intR_fits b7)
  have C4 := Lib.hid (C3.out.trans' (b7.chg fp1))
  clear b7 G1 G0 G2 C3 e0 e1 z0 z1
  go_wp2_with fail
  refine (heldMem_any _ _ _ _ (by omega) (by omega) (by simp [marks_len]) _ G1'.out).mono ?_
  rw [heldR_marks]
  rintro e w8 ⟨rfl, b8⟩
  have C5 := Lib.hid ((C4.out.trans' (b8.chg fp1)).home LO.out)
  clear b8 C4 G1' e0' e1'
  go_wp2
  go_ret
  exact ⟨rfl, C5.out⟩

set_option maxRecDepth 100000 in
theorem lifted (os : Os) (started : os.Started) (H : Type) (enc : TypeId × Value → H) :
    ReturnsInHanded {} Try.checked os 6 .any (Rows.fnExactMemNewSpec.pre6 enc Try.prog Try.f6 Rows.fnExactMemNewRow.domain false) (Rows.fnExactMemNewSpec.post enc Try.prog Try.f6 false true false false) := by
  refine returnsInHanded_of_change (C := Try.checked) own started (by kernel_rfl) Try.func6
    (ChangeSpec.witness6 (enc := enc) (C := Try.checked) false ⟨#[], #[], []⟩ 8 (by kernel_rfl) (by kernel_rfl) (by kernel_rfl) (by kernel_rfl)) ?_
  intro W base args ds gs before hval0 hW hcnd _
  have hval : ∀ (j : Nat) t v, Try.f6.params[j]? = some t → args[j]? = some v → Value.okWide Try.prog W .any base t v := hval0
  have hW' := hW
  obtain ⟨p, q, hA0, hV, rfl, hfz, hnd⟩ := hW
  have hA : DataW.TrodAll enc Try.prog W 0 (fun _ => true) true Try.f6.params.toList args.toList ds p := hA0
  rw [Try.params6] at hA hval
  obtain ⟨rfl, rfl, rfl⟩ := trodAll_none hA
  obtain ⟨rfl, rfl⟩ := trodVars_none hV
  clear hA0 hval0
  simp only [List.append_nil] at hW'
  refine (walk  W).mono fun e W' ⟨he, hb⟩ => ?_
  subst he
  exact ⟨_, rfl, _, _, _, [], _, [], hW', (trodAll_cons_mk (shut_bool Try.underlying4 _) trodAll_mk0), trodAll_mk0, rfl, hb.frame _, fun h => by cases h⟩

theorem over : Rows.fnExactMemNewRow.holds Try.pinned (OpenSpec.ofChange Rows.fnExactMemNewSpec) :=
  OpenClaim.holds_of_wide 6 Try.f6 rfl rfl rfl rfl rfl rfl rfl ⟨rfl, rfl, rfl, rfl, rfl⟩ rfl rfl rfl rfl rfl (by kernel_rfl) Try.func6 (by kernel_rfl)
    (of_decide_eq_true (by kernel_rfl)) (by unfold Func.isWrapper; first | (rw [if_pos (by decide +kernel)]; kernel_rfl) | (rw [if_neg (by decide +kernel)]; exact ⟨rfl, rfl⟩))
    (fun os started H enc _ => lifted os started H enc)

theorem proved : Rows.FnExactMemNewSaid :=
  over
#print axioms proved
end Go.Proofs.Ytmnjoogaiokhkaa.fnExactMemNew
