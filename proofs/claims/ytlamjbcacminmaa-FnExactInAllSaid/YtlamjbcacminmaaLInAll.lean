/-
  Proved: the Go function laws.FnExactInAll returns true: the program's InAll answers as the reference's, in new memory.
  Conditions: none.
-/
import Derived.Test.YtlamjbcacminmaaLift
import Derived.Test.YtlamjbcacminmaaInAll
import Derived.Test.YtlamjbcacminmaaInMark
namespace Go.Proofs.Ytlamjbcacminmaa.fnExactInAll
set_option linter.unusedVariables false
set_option linter.unusedSimpArgs false
open Go.ChangeShapes Go.WideShapes Go.ChangeAt Go.RowKit

theorem sm_FnExactInAll : sm_In inAll := ⟨show _ ≤ _ by simp [inAll], show _ ≤ _ by simp [inAll], show _ ≤ _ by simp [inAll]⟩

set_option maxRecDepth 100000 in
set_option maxHeartbeats 6400000 in
theorem walk  (w : World)  :
    Calls Try.prog 10 #[] w fun e w' => e = .returned (.bool true) ∧ Below w.heap.size w w' := by
  have B := Lib.hid (Below.refl w.heap.size w)
  have smr := Lib.hid sm_FnExactInAll
  go_enter Try.func10, Try.ntmps10
  go_wp2_with fail
  refine (sInAll_any  _ ).mono ?_
  rintro e w1 ⟨Wv0, Wf0, Wv1, Wf1, Wv2, Wf2, rfl, Wg0, Wg1, Wg2, n, b⟩
  obtain ⟨Wa0, Wl0, Wk0, rfl⟩ := Wg0.form
  obtain ⟨Wa1, Wl1, Wk1, rfl⟩ := Wg1.form
  obtain ⟨Wa2, Wl2, Wk2, rfl⟩ := Wg2.form
  replace B := Lib.hid (B.out.trans (b.mono B.out.size))
  have W0 := Lib.hid Wg0
  have W1 := Lib.hid Wg1
  have W2 := Lib.hid Wg2
  clear n b Wg0 Wg1 Wg2
  have ba := below_alloc w1 (.cells #[.slice Wa0 Wl0 Wk0, .slice Wa1 Wl1 Wk1, .slice Wa2 Wl2 Wk2] 57)
  replace W0 := Lib.hid (SlR.below boolR_fits W0.out ba)
  replace W1 := Lib.hid (SlR.below boolR_fits W1.out ba)
  replace W2 := Lib.hid (SlR.below boolR_fits W2.out ba)
  replace B := Lib.hid (B.out.trans (ba.mono B.out.size))
  have Q_W_0 := alloc1_new w1 #[.slice Wa0 Wl0 Wk0, .slice Wa1 Wl1 Wk1, .slice Wa2 Wl2 Wk2] 57 0 rfl
  have Q_W_1 := alloc1_new w1 #[.slice Wa0 Wl0 Wk0, .slice Wa1 Wl1 Wk1, .slice Wa2 Wl2 Wk2] 57 1 rfl
  have Q_W_2 := alloc1_new w1 #[.slice Wa0 Wl0 Wk0, .slice Wa1 Wl1 Wk1, .slice Wa2 Wl2 Wk2] 57 2 rfl
  clear ba
  go_wp2_with fail
  refine (iInAll_any  _ ).mono ?_
  rintro e w2 ⟨Rv0, Rf0, Rv1, Rf1, Rv2, Rf2, rfl, Rg0, Rg1, Rg2, n, b⟩
  obtain ⟨Ra0, Rl0, Rk0, rfl⟩ := Rg0.form
  obtain ⟨Ra1, Rl1, Rk1, rfl⟩ := Rg1.form
  obtain ⟨Ra2, Rl2, Rk2, rfl⟩ := Rg2.form
  have D_W0_R : Hid (∀ b, b ∈ Wf0 → b ∉ Rf0 ++ Rf1 ++ Rf2) := Lib.hid (fun b hb hb' => by have h1 := SlR.lt boolR_fits W0.out b hb; have h2 := n.lo b hb'; (try simp at h1); (try simp at h2); omega)
  have D_W1_R : Hid (∀ b, b ∈ Wf1 → b ∉ Rf0 ++ Rf1 ++ Rf2) := Lib.hid (fun b hb hb' => by have h1 := SlR.lt boolR_fits W1.out b hb; have h2 := n.lo b hb'; (try simp at h1); (try simp at h2); omega)
  have D_W2_R : Hid (∀ b, b ∈ Wf2 → b ∉ Rf0 ++ Rf1 ++ Rf2) := Lib.hid (fun b hb hb' => by have h1 := SlR.lt boolR_fits W2.out b hb; have h2 := n.lo b hb'; (try simp at h1); (try simp at h2); omega)
  have M_W_R : Hid (w1.heap.size ∉ Rf0 ++ Rf1 ++ Rf2) := Lib.hid (fun hb' => by have h1 := block_of_cell Q_W_0; have h2 := n.lo _ hb'; (try simp at h1); (try simp at h2); omega)
  have LO_R : Hid (∀ b, b ∈ Rf0 ++ Rf1 ++ Rf2 → w.heap.size ≤ b) := Lib.hid (fun b hb => by have h1 := n.lo b hb; have h2 := B.out.size; (try simp at h1); (try simp at h2); omega)
  replace W0 := Lib.hid (SlR.below boolR_fits W0.out b)
  replace W1 := Lib.hid (SlR.below boolR_fits W1.out b)
  replace W2 := Lib.hid (SlR.below boolR_fits W2.out b)
  replace Q_W_0 := keep_cell b Q_W_0
  replace Q_W_1 := keep_cell b Q_W_1
  replace Q_W_2 := keep_cell b Q_W_2
  replace B := Lib.hid (B.out.trans (b.mono B.out.size))
  have R0 := Lib.hid Rg0
  have R1 := Lib.hid Rg1
  have R2 := Lib.hid Rg2
  have F_R := Lib.hid n.free
  have ON_R := Lib.hid n.once
  have W_R : Hid (∀ b, b ∈ Rf0 ++ Rf1 ++ Rf2 → b < w2.heap.size) := Lib.hid (all_app (T := fun b => b < w2.heap.size) ((all_app (T := fun b => b < w2.heap.size) (Rg0.lt boolR_fits) (Rg1.lt boolR_fits))) (Rg2.lt boolR_fits))
  clear n b Rg0 Rg1 Rg2
  have ba := below_alloc w2 (.cells #[.slice Ra0 Rl0 Rk0, .slice Ra1 Rl1 Rk1, .slice Ra2 Rl2 Rk2] 57)
  have M_R_R : Hid (w2.heap.size ∉ Rf0 ++ Rf1 ++ Rf2) := Lib.hid (fun hb => by have := W_R.out _ hb; omega)
  replace W0 := Lib.hid (SlR.below boolR_fits W0.out ba)
  replace W1 := Lib.hid (SlR.below boolR_fits W1.out ba)
  replace W2 := Lib.hid (SlR.below boolR_fits W2.out ba)
  replace R0 := Lib.hid (SlR.below boolR_fits R0.out ba)
  replace R1 := Lib.hid (SlR.below boolR_fits R1.out ba)
  replace R2 := Lib.hid (SlR.below boolR_fits R2.out ba)
  replace Q_W_0 := keep_cell ba Q_W_0
  replace Q_W_1 := keep_cell ba Q_W_1
  replace Q_W_2 := keep_cell ba Q_W_2
  replace F_R := Lib.hid (Free.below F_R.out W_R.out ba)
  replace W_R := Lib.hid (fun q hq => Nat.lt_of_lt_of_le (W_R.out q hq) ba.size)
  replace B := Lib.hid (B.out.trans (ba.mono B.out.size))
  have Q_R_0 := alloc1_new w2 #[.slice Ra0 Rl0 Rk0, .slice Ra1 Rl1 Rk1, .slice Ra2 Rl2 Rk2] 57 0 rfl
  have Q_R_1 := alloc1_new w2 #[.slice Ra0 Rl0 Rk0, .slice Ra1 Rl1 Rk1, .slice Ra2 Rl2 Rk2] 57 1 rfl
  have Q_R_2 := alloc1_new w2 #[.slice Ra0 Rl0 Rk0, .slice Ra1 Rl1 Rk1, .slice Ra2 Rl2 Rk2] 57 2 rfl
  clear ba
  go_wp2_with fail
  refine (eq_In inAll inAll _ _ _ _ _ _ Rf0 Rf1 Rf2 Wf0 Wf1 Wf2 _ R0.out R1.out R2.out W0.out W1.out W2.out).mono ?_
  rw [decide_eq_true rfl]
  rintro e w3 ⟨rfl, b⟩
  replace W0 := Lib.hid (SlR.below boolR_fits W0.out b)
  replace W1 := Lib.hid (SlR.below boolR_fits W1.out b)
  replace W2 := Lib.hid (SlR.below boolR_fits W2.out b)
  replace R0 := Lib.hid (SlR.below boolR_fits R0.out b)
  replace R1 := Lib.hid (SlR.below boolR_fits R1.out b)
  replace R2 := Lib.hid (SlR.below boolR_fits R2.out b)
  replace Q_W_0 := keep_cell b Q_W_0
  replace Q_W_1 := keep_cell b Q_W_1
  replace Q_W_2 := keep_cell b Q_W_2
  replace Q_R_0 := keep_cell b Q_R_0
  replace Q_R_1 := keep_cell b Q_R_1
  replace Q_R_2 := keep_cell b Q_R_2
  replace F_R := Lib.hid (Free.below F_R.out W_R.out b)
  replace W_R := Lib.hid (fun q hq => Nat.lt_of_lt_of_le (W_R.out q hq) b.size)
  replace B := Lib.hid (B.out.trans (b.mono B.out.size))
  clear b
  go_wp2_with fail
  have hcr := cnt_In_in smr.out
  obtain ⟨cr, hccr⟩ : ∃ c, c = cnt_In (inAll) := ⟨_, rfl⟩
  rw [← hccr] at hcr
  have lcr := hcr.1
  have ucr := hcr.2
  have HCR := Lib.hid hccr
  clear hcr hccr
  have kpr : 0 ≤ 1 + cr := by omega
  refine (mark_In inAll _ _ _ Rf0 Rf1 Rf2 1 (by omega) (by omega) smr.out _ R0.out R1.out R2.out F_R.out ON_R.out).mono ?_
  rw [← HCR.out]
  rintro e w4 ⟨rfl, mg0, mg1, mg2, c, fr⟩
  replace W0 := Lib.hid (SlR.chg boolR_fits W0.out c D_W0_R.out)
  replace W1 := Lib.hid (SlR.chg boolR_fits W1.out c D_W1_R.out)
  replace W2 := Lib.hid (SlR.chg boolR_fits W2.out c D_W2_R.out)
  replace Q_W_0 := keep_cell_chg c Q_W_0 M_W_R.out
  replace Q_W_1 := keep_cell_chg c Q_W_1 M_W_R.out
  replace Q_W_2 := keep_cell_chg c Q_W_2 M_W_R.out
  replace Q_R_0 := keep_cell_chg c Q_R_0 M_R_R.out
  replace Q_R_1 := keep_cell_chg c Q_R_1 M_R_R.out
  replace Q_R_2 := keep_cell_chg c Q_R_2 M_R_R.out
  replace W_R := Lib.hid (fun q hq => Nat.lt_of_lt_of_le (W_R.out q hq) c.size)
  replace F_R := Lib.hid fr
  replace B := Lib.hid (B.out.trans (Chg.under c B.out.size LO_R.out))
  replace R0 := Lib.hid mg0
  replace R1 := Lib.hid mg1
  replace R2 := Lib.hid mg2
  clear c fr mg0 mg1 mg2
  go_wp2_with fail
  refine (held_In inAll _ _ _ Rf0 Rf1 Rf2 1 (by omega) (by omega) smr.out _ R0.out R1.out R2.out).mono ?_
  rw [← HCR.out]
  rintro e w5 ⟨rfl, b⟩
  replace W0 := Lib.hid (SlR.below boolR_fits W0.out b)
  replace W1 := Lib.hid (SlR.below boolR_fits W1.out b)
  replace W2 := Lib.hid (SlR.below boolR_fits W2.out b)
  replace R0 := Lib.hid (SlR.below boolR_fits R0.out b)
  replace R1 := Lib.hid (SlR.below boolR_fits R1.out b)
  replace R2 := Lib.hid (SlR.below boolR_fits R2.out b)
  replace Q_W_0 := keep_cell b Q_W_0
  replace Q_W_1 := keep_cell b Q_W_1
  replace Q_W_2 := keep_cell b Q_W_2
  replace Q_R_0 := keep_cell b Q_R_0
  replace Q_R_1 := keep_cell b Q_R_1
  replace Q_R_2 := keep_cell b Q_R_2
  replace F_R := Lib.hid (Free.below F_R.out W_R.out b)
  replace W_R := Lib.hid (fun q hq => Nat.lt_of_lt_of_le (W_R.out q hq) b.size)
  replace B := Lib.hid (B.out.trans (b.mono B.out.size))
  clear b
  go_wp2_with fail
  refine (iInAll_any  _ ).mono ?_
  rintro e w6 ⟨Hv0, Hf0, Hv1, Hf1, Hv2, Hf2, rfl, Hg0, Hg1, Hg2, n, b⟩
  obtain ⟨Ha0, Hl0, Hk0, rfl⟩ := Hg0.form
  obtain ⟨Ha1, Hl1, Hk1, rfl⟩ := Hg1.form
  obtain ⟨Ha2, Hl2, Hk2, rfl⟩ := Hg2.form
  have E_R_H : Hid (∀ b, b ∈ Hf0 ++ Hf1 ++ Hf2 → b ∉ Rf0 ++ Rf1 ++ Rf2) := Lib.hid (fun b hb hb' => by have h1 := W_R.out b hb'; have h2 := n.lo b hb; (try simp at h1); (try simp at h2); omega)
  replace W0 := Lib.hid (SlR.below boolR_fits W0.out b)
  replace W1 := Lib.hid (SlR.below boolR_fits W1.out b)
  replace W2 := Lib.hid (SlR.below boolR_fits W2.out b)
  replace R0 := Lib.hid (SlR.below boolR_fits R0.out b)
  replace R1 := Lib.hid (SlR.below boolR_fits R1.out b)
  replace R2 := Lib.hid (SlR.below boolR_fits R2.out b)
  replace Q_W_0 := keep_cell b Q_W_0
  replace Q_W_1 := keep_cell b Q_W_1
  replace Q_W_2 := keep_cell b Q_W_2
  replace Q_R_0 := keep_cell b Q_R_0
  replace Q_R_1 := keep_cell b Q_R_1
  replace Q_R_2 := keep_cell b Q_R_2
  replace F_R := Lib.hid (Free.below F_R.out W_R.out b)
  replace W_R := Lib.hid (fun q hq => Nat.lt_of_lt_of_le (W_R.out q hq) b.size)
  replace B := Lib.hid (B.out.trans (b.mono B.out.size))
  have H0 := Lib.hid Hg0
  have H1 := Lib.hid Hg1
  have H2 := Lib.hid Hg2
  clear n b Hg0 Hg1 Hg2
  have ba := below_alloc w6 (.cells #[.slice Ha0 Hl0 Hk0, .slice Ha1 Hl1 Hk1, .slice Ha2 Hl2 Hk2] 57)
  have M_H_R : Hid (w6.heap.size ∉ Rf0 ++ Rf1 ++ Rf2) := Lib.hid (fun hb => by have := W_R.out _ hb; omega)
  replace W0 := Lib.hid (SlR.below boolR_fits W0.out ba)
  replace W1 := Lib.hid (SlR.below boolR_fits W1.out ba)
  replace W2 := Lib.hid (SlR.below boolR_fits W2.out ba)
  replace R0 := Lib.hid (SlR.below boolR_fits R0.out ba)
  replace R1 := Lib.hid (SlR.below boolR_fits R1.out ba)
  replace R2 := Lib.hid (SlR.below boolR_fits R2.out ba)
  replace H0 := Lib.hid (SlR.below boolR_fits H0.out ba)
  replace H1 := Lib.hid (SlR.below boolR_fits H1.out ba)
  replace H2 := Lib.hid (SlR.below boolR_fits H2.out ba)
  replace Q_W_0 := keep_cell ba Q_W_0
  replace Q_W_1 := keep_cell ba Q_W_1
  replace Q_W_2 := keep_cell ba Q_W_2
  replace Q_R_0 := keep_cell ba Q_R_0
  replace Q_R_1 := keep_cell ba Q_R_1
  replace Q_R_2 := keep_cell ba Q_R_2
  replace F_R := Lib.hid (Free.below F_R.out W_R.out ba)
  replace W_R := Lib.hid (fun q hq => Nat.lt_of_lt_of_le (W_R.out q hq) ba.size)
  replace B := Lib.hid (B.out.trans (ba.mono B.out.size))
  have Q_H_0 := alloc1_new w6 #[.slice Ha0 Hl0 Hk0, .slice Ha1 Hl1 Hk1, .slice Ha2 Hl2 Hk2] 57 0 rfl
  have Q_H_1 := alloc1_new w6 #[.slice Ha0 Hl0 Hk0, .slice Ha1 Hl1 Hk1, .slice Ha2 Hl2 Hk2] 57 1 rfl
  have Q_H_2 := alloc1_new w6 #[.slice Ha0 Hl0 Hk0, .slice Ha1 Hl1 Hk1, .slice Ha2 Hl2 Hk2] 57 2 rfl
  clear ba
  go_wp2_with fail
  refine (eq_In inAll inAll _ _ _ _ _ _ Hf0 Hf1 Hf2 Wf0 Wf1 Wf2 _ H0.out H1.out H2.out W0.out W1.out W2.out).mono ?_
  rw [decide_eq_true rfl]
  rintro e w7 ⟨rfl, b⟩
  replace W0 := Lib.hid (SlR.below boolR_fits W0.out b)
  replace W1 := Lib.hid (SlR.below boolR_fits W1.out b)
  replace W2 := Lib.hid (SlR.below boolR_fits W2.out b)
  replace R0 := Lib.hid (SlR.below boolR_fits R0.out b)
  replace R1 := Lib.hid (SlR.below boolR_fits R1.out b)
  replace R2 := Lib.hid (SlR.below boolR_fits R2.out b)
  replace H0 := Lib.hid (SlR.below boolR_fits H0.out b)
  replace H1 := Lib.hid (SlR.below boolR_fits H1.out b)
  replace H2 := Lib.hid (SlR.below boolR_fits H2.out b)
  replace Q_W_0 := keep_cell b Q_W_0
  replace Q_W_1 := keep_cell b Q_W_1
  replace Q_W_2 := keep_cell b Q_W_2
  replace Q_R_0 := keep_cell b Q_R_0
  replace Q_R_1 := keep_cell b Q_R_1
  replace Q_R_2 := keep_cell b Q_R_2
  replace Q_H_0 := keep_cell b Q_H_0
  replace Q_H_1 := keep_cell b Q_H_1
  replace Q_H_2 := keep_cell b Q_H_2
  replace F_R := Lib.hid (Free.below F_R.out W_R.out b)
  replace W_R := Lib.hid (fun q hq => Nat.lt_of_lt_of_le (W_R.out q hq) b.size)
  replace B := Lib.hid (B.out.trans (b.mono B.out.size))
  clear b
  go_wp2_with fail
  refine (held_In inAll _ _ _ Rf0 Rf1 Rf2 1 (by omega) (by omega) smr.out _ R0.out R1.out R2.out).mono ?_
  rw [← HCR.out]
  rintro e w8 ⟨rfl, b⟩
  replace W0 := Lib.hid (SlR.below boolR_fits W0.out b)
  replace W1 := Lib.hid (SlR.below boolR_fits W1.out b)
  replace W2 := Lib.hid (SlR.below boolR_fits W2.out b)
  replace R0 := Lib.hid (SlR.below boolR_fits R0.out b)
  replace R1 := Lib.hid (SlR.below boolR_fits R1.out b)
  replace R2 := Lib.hid (SlR.below boolR_fits R2.out b)
  replace H0 := Lib.hid (SlR.below boolR_fits H0.out b)
  replace H1 := Lib.hid (SlR.below boolR_fits H1.out b)
  replace H2 := Lib.hid (SlR.below boolR_fits H2.out b)
  replace Q_W_0 := keep_cell b Q_W_0
  replace Q_W_1 := keep_cell b Q_W_1
  replace Q_W_2 := keep_cell b Q_W_2
  replace Q_R_0 := keep_cell b Q_R_0
  replace Q_R_1 := keep_cell b Q_R_1
  replace Q_R_2 := keep_cell b Q_R_2
  replace Q_H_0 := keep_cell b Q_H_0
  replace Q_H_1 := keep_cell b Q_H_1
  replace Q_H_2 := keep_cell b Q_H_2
  replace F_R := Lib.hid (Free.below F_R.out W_R.out b)
  replace W_R := Lib.hid (fun q hq => Nat.lt_of_lt_of_le (W_R.out q hq) b.size)
  replace B := Lib.hid (B.out.trans (b.mono B.out.size))
  clear b
  go_wp2
  go_ret
  exact ⟨rfl, B.out⟩


set_option maxRecDepth 100000 in
theorem lifted (os : Os) (started : os.Started) (H : Type) (enc : TypeId × Value → H) :
    ReturnsInHanded {} Try.checked os 10 .any (Rows.fnExactInAllSpec.pre6 enc Try.prog Try.f10 Rows.fnExactInAllRow.domain false) (Rows.fnExactInAllSpec.post enc Try.prog Try.f10 false true false false) := by
  refine returnsInHanded_of_change (C := Try.checked) own started (by kernel_rfl) Try.func10
    (ChangeSpec.witness6 (enc := enc) (C := Try.checked) false ⟨#[], #[], []⟩ 8 (by kernel_rfl) (by kernel_rfl) (by kernel_rfl) (by kernel_rfl)) ?_
  intro W base args ds gs before hval0 hW hcnd _
  have hval : ∀ (j : Nat) t v, Try.f10.params[j]? = some t → args[j]? = some v → Value.okWide Try.prog W .any base t v := hval0
  have hW' := hW
  obtain ⟨p, q, hA0, hV, rfl, hfz, hnd⟩ := hW
  have hA : DataW.TrodAll enc Try.prog W 0 (fun _ => true) true Try.f10.params.toList args.toList ds p := hA0
  rw [Try.params10] at hA hval
  obtain ⟨rfl, rfl, rfl⟩ := trodAll_none hA
  obtain ⟨rfl, rfl⟩ := trodVars_none hV
  clear hA0 hval0
  simp only [List.append_nil] at hW'
  refine (walk  W ).mono fun e W' ⟨he, hb⟩ => ?_
  subst he
  exact ⟨_, rfl, _, _, _, [], _, [], hW', (trodAll_cons_mk (shut_bool Try.underlying4 _) trodAll_mk0), trodAll_mk0, rfl, hb.frame _, fun h => by cases h⟩

theorem over : Rows.fnExactInAllRow.holds Try.pinned (OpenSpec.ofChange Rows.fnExactInAllSpec) :=
  OpenClaim.holds_of_wide 10 Try.f10 rfl rfl rfl rfl rfl rfl rfl ⟨rfl, rfl, rfl, rfl, rfl⟩ rfl rfl rfl rfl rfl (by kernel_rfl) Try.func10 (by kernel_rfl)
    (of_decide_eq_true (by kernel_rfl)) (by unfold Func.isWrapper; first | (rw [if_pos (by decide +kernel)]; kernel_rfl) | (rw [if_neg (by decide +kernel)]; exact ⟨rfl, rfl⟩))
    (fun os started H enc _ => lifted os started H enc)

theorem proved : Rows.FnExactInAllSaid :=
  over
#print axioms proved
end Go.Proofs.Ytlamjbcacminmaa.fnExactInAll
