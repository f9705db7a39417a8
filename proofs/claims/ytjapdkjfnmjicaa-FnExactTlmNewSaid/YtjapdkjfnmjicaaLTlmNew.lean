/-
  Proved: the Go function laws.FnExactTlmNew returns true: the program's TlmNew answers as the reference's, in new memory.
  Conditions: none.
-/
import Derived.Test.YtjapdkjfnmjicaaLift
import Derived.Test.YtjapdkjfnmjicaaTlmNew
import Derived.Test.YtjapdkjfnmjicaaTlmMark
namespace Go.Proofs.Ytjapdkjfnmjicaa.fnExactTlmNew
set_option linter.unusedVariables false
set_option linter.unusedSimpArgs false
open Go.ChangeShapes Go.WideShapes Go.ChangeAt Go.RowKit

theorem sm_FnExactTlmNew : sm_Tlm tlmNew := ⟨⟨show _ ≤ _ by simp [tlmNew, atmNew], show _ ≤ _ by simp [tlmNew, atmNew]⟩, show _ ≤ _ by simp [tlmNew], ⟨by simp [tlmNew], fun k h => by simp [tlmNew] at h⟩, ⟨by simp [tlmNew], fun k h => by simp [tlmNew] at h⟩, ⟨by simp [tlmNew], fun k h => by simp [tlmNew] at h⟩⟩

set_option maxRecDepth 100000 in
set_option maxHeartbeats 6400000 in
theorem walk  (w : World)  :
    Calls Try.prog 8 #[] w fun e w' => e = .returned (.bool true) ∧ Below w.heap.size w w' := by
  have B := Lib.hid (Below.refl w.heap.size w)
  have smr := Lib.hid sm_FnExactTlmNew
  go_enter Try.func8, Try.ntmps8
  go_wp2_with fail
  refine (sTlmNew_any  _ ).mono ?_
  rintro e w1 ⟨Wv0, Wf0, Wv1, Wf1, Wv2, Wf2, Wv3, Wf3, Wv4, Wf4, Wv5, Wf5, rfl, Wg0, Wg1, Wg2, Wg3, Wg4, Wg5, n, b⟩
  obtain ⟨Wa0, Wl0, Wk0, rfl⟩ := Wg0.form
  obtain ⟨Wa1, Wl1, Wk1, rfl⟩ := Wg1.form
  obtain ⟨Wa2, Wl2, Wk2, rfl⟩ := Wg2.form
  obtain ⟨Wa3, Wl3, Wk3, rfl⟩ := Wg3.form
  obtain ⟨Wa4, Wl4, Wk4, rfl⟩ := Wg4.form
  obtain ⟨Wa5, Wl5, Wk5, rfl⟩ := Wg5.form
  replace B := Lib.hid (B.out.trans (b.mono B.out.size))
  have W0 := Lib.hid Wg0
  have W1 := Lib.hid Wg1
  have W2 := Lib.hid Wg2
  have W3 := Lib.hid Wg3
  have W4 := Lib.hid Wg4
  have W5 := Lib.hid Wg5
  clear n b Wg0 Wg1 Wg2 Wg3 Wg4 Wg5
  have ba := below_alloc w1 (.cells #[.slice Wa0 Wl0 Wk0, .slice Wa1 Wl1 Wk1, .slice Wa2 Wl2 Wk2, .slice Wa3 Wl3 Wk3, .slice Wa4 Wl4 Wk4, .slice Wa5 Wl5 Wk5] 57)
  replace W0 := Lib.hid (SlR.below intR_fits W0.out ba)
  replace W1 := Lib.hid (SlR.below intR_fits W1.out ba)
  replace W2 := Lib.hid (SlR.below intR_fits W2.out ba)
  replace W3 := Lib.hid (SlR.below jobR_fits W3.out ba)
  replace W4 := Lib.hid (SlR.below jobR_fits W4.out ba)
  replace W5 := Lib.hid (SlR.below jobR_fits W5.out ba)
  replace B := Lib.hid (B.out.trans (ba.mono B.out.size))
  have Q_W_0 := alloc1_new w1 #[.slice Wa0 Wl0 Wk0, .slice Wa1 Wl1 Wk1, .slice Wa2 Wl2 Wk2, .slice Wa3 Wl3 Wk3, .slice Wa4 Wl4 Wk4, .slice Wa5 Wl5 Wk5] 57 0 rfl
  have Q_W_1 := alloc1_new w1 #[.slice Wa0 Wl0 Wk0, .slice Wa1 Wl1 Wk1, .slice Wa2 Wl2 Wk2, .slice Wa3 Wl3 Wk3, .slice Wa4 Wl4 Wk4, .slice Wa5 Wl5 Wk5] 57 1 rfl
  have Q_W_2 := alloc1_new w1 #[.slice Wa0 Wl0 Wk0, .slice Wa1 Wl1 Wk1, .slice Wa2 Wl2 Wk2, .slice Wa3 Wl3 Wk3, .slice Wa4 Wl4 Wk4, .slice Wa5 Wl5 Wk5] 57 2 rfl
  have Q_W_3 := alloc1_new w1 #[.slice Wa0 Wl0 Wk0, .slice Wa1 Wl1 Wk1, .slice Wa2 Wl2 Wk2, .slice Wa3 Wl3 Wk3, .slice Wa4 Wl4 Wk4, .slice Wa5 Wl5 Wk5] 57 3 rfl
  have Q_W_4 := alloc1_new w1 #[.slice Wa0 Wl0 Wk0, .slice Wa1 Wl1 Wk1, .slice Wa2 Wl2 Wk2, .slice Wa3 Wl3 Wk3, .slice Wa4 Wl4 Wk4, .slice Wa5 Wl5 Wk5] 57 4 rfl
  have Q_W_5 := alloc1_new w1 #[.slice Wa0 Wl0 Wk0, .slice Wa1 Wl1 Wk1, .slice Wa2 Wl2 Wk2, .slice Wa3 Wl3 Wk3, .slice Wa4 Wl4 Wk4, .slice Wa5 Wl5 Wk5] 57 5 rfl
  clear ba
  go_wp2_with fail
  refine (iTlmNew_any  _ ).mono ?_
  rintro e w2 ⟨Rv0, Rf0, Rv1, Rf1, Rv2, Rf2, Rv3, Rf3, Rv4, Rf4, Rv5, Rf5, rfl, Rg0, Rg1, Rg2, Rg3, Rg4, Rg5, n, b⟩
  obtain ⟨Ra0, Rl0, Rk0, rfl⟩ := Rg0.form
  obtain ⟨Ra1, Rl1, Rk1, rfl⟩ := Rg1.form
  obtain ⟨Ra2, Rl2, Rk2, rfl⟩ := Rg2.form
  obtain ⟨Ra3, Rl3, Rk3, rfl⟩ := Rg3.form
  obtain ⟨Ra4, Rl4, Rk4, rfl⟩ := Rg4.form
  obtain ⟨Ra5, Rl5, Rk5, rfl⟩ := Rg5.form
  have D_W0_R : Hid (∀ b, b ∈ Wf0 → b ∉ Rf0 ++ Rf1 ++ Rf2 ++ Rf3 ++ Rf4 ++ Rf5) := Lib.hid (fun b hb hb' => by have h1 := SlR.lt intR_fits W0.out b hb; have h2 := n.lo b hb'; (try simp at h1); (try simp at h2); omega)
  have D_W1_R : Hid (∀ b, b ∈ Wf1 → b ∉ Rf0 ++ Rf1 ++ Rf2 ++ Rf3 ++ Rf4 ++ Rf5) := Lib.hid (fun b hb hb' => by have h1 := SlR.lt intR_fits W1.out b hb; have h2 := n.lo b hb'; (try simp at h1); (try simp at h2); omega)
  have D_W2_R : Hid (∀ b, b ∈ Wf2 → b ∉ Rf0 ++ Rf1 ++ Rf2 ++ Rf3 ++ Rf4 ++ Rf5) := Lib.hid (fun b hb hb' => by have h1 := SlR.lt intR_fits W2.out b hb; have h2 := n.lo b hb'; (try simp at h1); (try simp at h2); omega)
  have D_W3_R : Hid (∀ b, b ∈ Wf3 → b ∉ Rf0 ++ Rf1 ++ Rf2 ++ Rf3 ++ Rf4 ++ Rf5) := Lib.hid (fun b hb hb' => by have h1 := SlR.lt jobR_fits W3.out b hb; have h2 := n.lo b hb'; (try simp at h1); (try simp at h2); omega)
  have D_W4_R : Hid (∀ b, b ∈ Wf4 → b ∉ Rf0 ++ Rf1 ++ Rf2 ++ Rf3 ++ Rf4 ++ Rf5) := Lib.hid (fun b hb hb' => by have h1 := SlR.lt jobR_fits W4.out b hb; have h2 := n.lo b hb'; (try simp at h1); (try simp at h2); omega)
  have D_W5_R : Hid (∀ b, b ∈ Wf5 → b ∉ Rf0 ++ Rf1 ++ Rf2 ++ Rf3 ++ Rf4 ++ Rf5) := Lib.hid (fun b hb hb' => by have h1 := SlR.lt jobR_fits W5.out b hb; have h2 := n.lo b hb'; (try simp at h1); (try simp at h2); omega)
  have M_W_R : Hid (w1.heap.size ∉ Rf0 ++ Rf1 ++ Rf2 ++ Rf3 ++ Rf4 ++ Rf5) := Lib.hid (fun hb' => by have h1 := block_of_cell Q_W_0; have h2 := n.lo _ hb'; (try simp at h1); (try simp at h2); omega)
  have LO_R : Hid (∀ b, b ∈ Rf0 ++ Rf1 ++ Rf2 ++ Rf3 ++ Rf4 ++ Rf5 → w.heap.size ≤ b) := Lib.hid (fun b hb => by have h1 := n.lo b hb; have h2 := B.out.size; (try simp at h1); (try simp at h2); omega)
  replace W0 := Lib.hid (SlR.below intR_fits W0.out b)
  replace W1 := Lib.hid (SlR.below intR_fits W1.out b)
  replace W2 := Lib.hid (SlR.below intR_fits W2.out b)
  replace W3 := Lib.hid (SlR.below jobR_fits W3.out b)
  replace W4 := Lib.hid (SlR.below jobR_fits W4.out b)
  replace W5 := Lib.hid (SlR.below jobR_fits W5.out b)
  replace Q_W_0 := keep_cell b Q_W_0
  replace Q_W_1 := keep_cell b Q_W_1
  replace Q_W_2 := keep_cell b Q_W_2
  replace Q_W_3 := keep_cell b Q_W_3
  replace Q_W_4 := keep_cell b Q_W_4
  replace Q_W_5 := keep_cell b Q_W_5
  replace B := Lib.hid (B.out.trans (b.mono B.out.size))
  have R0 := Lib.hid Rg0
  have R1 := Lib.hid Rg1
  have R2 := Lib.hid Rg2
  have R3 := Lib.hid Rg3
  have R4 := Lib.hid Rg4
  have R5 := Lib.hid Rg5
  have F_R := Lib.hid n.free
  have ON_R := Lib.hid n.once
  have W_R : Hid (∀ b, b ∈ Rf0 ++ Rf1 ++ Rf2 ++ Rf3 ++ Rf4 ++ Rf5 → b < w2.heap.size) := Lib.hid (all_app (T := fun b => b < w2.heap.size) ((all_app (T := fun b => b < w2.heap.size) ((all_app (T := fun b => b < w2.heap.size) ((all_app (T := fun b => b < w2.heap.size) ((all_app (T := fun b => b < w2.heap.size) (Rg0.lt intR_fits) (Rg1.lt intR_fits))) (Rg2.lt intR_fits))) (Rg3.lt jobR_fits))) (Rg4.lt jobR_fits))) (Rg5.lt jobR_fits))
  clear n b Rg0 Rg1 Rg2 Rg3 Rg4 Rg5
  have ba := below_alloc w2 (.cells #[.slice Ra0 Rl0 Rk0, .slice Ra1 Rl1 Rk1, .slice Ra2 Rl2 Rk2, .slice Ra3 Rl3 Rk3, .slice Ra4 Rl4 Rk4, .slice Ra5 Rl5 Rk5] 57)
  have M_R_R : Hid (w2.heap.size ∉ Rf0 ++ Rf1 ++ Rf2 ++ Rf3 ++ Rf4 ++ Rf5) := Lib.hid (fun hb => by have := W_R.out _ hb; omega)
  replace W0 := Lib.hid (SlR.below intR_fits W0.out ba)
  replace W1 := Lib.hid (SlR.below intR_fits W1.out ba)
  replace W2 := Lib.hid (SlR.below intR_fits W2.out ba)
  replace W3 := Lib.hid (SlR.below jobR_fits W3.out ba)
  replace W4 := Lib.hid (SlR.below jobR_fits W4.out ba)
  replace W5 := Lib.hid (SlR.below jobR_fits W5.out ba)
  replace R0 := Lib.hid (SlR.below intR_fits R0.out ba)
  replace R1 := Lib.hid (SlR.below intR_fits R1.out ba)
  replace R2 := Lib.hid (SlR.below intR_fits R2.out ba)
  replace R3 := Lib.hid (SlR.below jobR_fits R3.out ba)
  replace R4 := Lib.hid (SlR.below jobR_fits R4.out ba)
  replace R5 := Lib.hid (SlR.below jobR_fits R5.out ba)
  replace Q_W_0 := keep_cell ba Q_W_0
  replace Q_W_1 := keep_cell ba Q_W_1
  replace Q_W_2 := keep_cell ba Q_W_2
  replace Q_W_3 := keep_cell ba Q_W_3
  replace Q_W_4 := keep_cell ba Q_W_4
  replace Q_W_5 := keep_cell ba Q_W_5
  replace F_R := Lib.hid (Free.below F_R.out W_R.out ba)
  replace W_R := Lib.hid (fun q hq => Nat.lt_of_lt_of_le (W_R.out q hq) ba.size)
  replace B := Lib.hid (B.out.trans (ba.mono B.out.size))
  have Q_R_0 := alloc1_new w2 #[.slice Ra0 Rl0 Rk0, .slice Ra1 Rl1 Rk1, .slice Ra2 Rl2 Rk2, .slice Ra3 Rl3 Rk3, .slice Ra4 Rl4 Rk4, .slice Ra5 Rl5 Rk5] 57 0 rfl
  have Q_R_1 := alloc1_new w2 #[.slice Ra0 Rl0 Rk0, .slice Ra1 Rl1 Rk1, .slice Ra2 Rl2 Rk2, .slice Ra3 Rl3 Rk3, .slice Ra4 Rl4 Rk4, .slice Ra5 Rl5 Rk5] 57 1 rfl
  have Q_R_2 := alloc1_new w2 #[.slice Ra0 Rl0 Rk0, .slice Ra1 Rl1 Rk1, .slice Ra2 Rl2 Rk2, .slice Ra3 Rl3 Rk3, .slice Ra4 Rl4 Rk4, .slice Ra5 Rl5 Rk5] 57 2 rfl
  have Q_R_3 := alloc1_new w2 #[.slice Ra0 Rl0 Rk0, .slice Ra1 Rl1 Rk1, .slice Ra2 Rl2 Rk2, .slice Ra3 Rl3 Rk3, .slice Ra4 Rl4 Rk4, .slice Ra5 Rl5 Rk5] 57 3 rfl
  have Q_R_4 := alloc1_new w2 #[.slice Ra0 Rl0 Rk0, .slice Ra1 Rl1 Rk1, .slice Ra2 Rl2 Rk2, .slice Ra3 Rl3 Rk3, .slice Ra4 Rl4 Rk4, .slice Ra5 Rl5 Rk5] 57 4 rfl
  have Q_R_5 := alloc1_new w2 #[.slice Ra0 Rl0 Rk0, .slice Ra1 Rl1 Rk1, .slice Ra2 Rl2 Rk2, .slice Ra3 Rl3 Rk3, .slice Ra4 Rl4 Rk4, .slice Ra5 Rl5 Rk5] 57 5 rfl
  clear ba
  go_wp2_with fail
  refine (eq_Tlm tlmNew tlmNew _ _ _ _ _ _ _ _ _ _ _ _ Rf0 Rf1 Rf2 Rf3 Rf4 Rf5 Wf0 Wf1 Wf2 Wf3 Wf4 Wf5 _ R0.out R1.out R2.out R3.out R4.out R5.out W0.out W1.out W2.out W3.out W4.out W5.out).mono ?_
  rw [decide_eq_true rfl]
  rintro e w3 ⟨rfl, b⟩
  replace W0 := Lib.hid (SlR.below intR_fits W0.out b)
  replace W1 := Lib.hid (SlR.below intR_fits W1.out b)
  replace W2 := Lib.hid (SlR.below intR_fits W2.out b)
  replace W3 := Lib.hid (SlR.below jobR_fits W3.out b)
  replace W4 := Lib.hid (SlR.below jobR_fits W4.out b)
  replace W5 := Lib.hid (SlR.below jobR_fits W5.out b)
  replace R0 := Lib.hid (SlR.below intR_fits R0.out b)
  replace R1 := Lib.hid (SlR.below intR_fits R1.out b)
  replace R2 := Lib.hid (SlR.below intR_fits R2.out b)
  replace R3 := Lib.hid (SlR.below jobR_fits R3.out b)
  replace R4 := Lib.hid (SlR.below jobR_fits R4.out b)
  replace R5 := Lib.hid (SlR.below jobR_fits R5.out b)
  replace Q_W_0 := keep_cell b Q_W_0
  replace Q_W_1 := keep_cell b Q_W_1
  replace Q_W_2 := keep_cell b Q_W_2
  replace Q_W_3 := keep_cell b Q_W_3
  replace Q_W_4 := keep_cell b Q_W_4
  replace Q_W_5 := keep_cell b Q_W_5
  replace Q_R_0 := keep_cell b Q_R_0
  replace Q_R_1 := keep_cell b Q_R_1
  replace Q_R_2 := keep_cell b Q_R_2
  replace Q_R_3 := keep_cell b Q_R_3
  replace Q_R_4 := keep_cell b Q_R_4
  replace Q_R_5 := keep_cell b Q_R_5
  replace F_R := Lib.hid (Free.below F_R.out W_R.out b)
  replace W_R := Lib.hid (fun q hq => Nat.lt_of_lt_of_le (W_R.out q hq) b.size)
  replace B := Lib.hid (B.out.trans (b.mono B.out.size))
  clear b
  go_wp2_with fail
  have hcr := cnt_Tlm_in smr.out
  obtain ⟨cr, hccr⟩ : ∃ c, c = cnt_Tlm (tlmNew) := ⟨_, rfl⟩
  rw [← hccr] at hcr
  have lcr := hcr.1
  have ucr := hcr.2
  have HCR := Lib.hid hccr
  clear hcr hccr
  have kpr : 0 ≤ 1 + cr := by omega
  refine (mark_Tlm tlmNew _ _ _ _ _ _ Rf0 Rf1 Rf2 Rf3 Rf4 Rf5 1 (by omega) (by omega) smr.out _ R0.out R1.out R2.out R3.out R4.out R5.out F_R.out ON_R.out).mono ?_
  rw [← HCR.out]
  rintro e w4 ⟨rfl, mg0, mg1, mg2, mg3, mg4, mg5, c, fr⟩
  replace W0 := Lib.hid (SlR.chg intR_fits W0.out c D_W0_R.out)
  replace W1 := Lib.hid (SlR.chg intR_fits W1.out c D_W1_R.out)
  replace W2 := Lib.hid (SlR.chg intR_fits W2.out c D_W2_R.out)
  replace W3 := Lib.hid (SlR.chg jobR_fits W3.out c D_W3_R.out)
  replace W4 := Lib.hid (SlR.chg jobR_fits W4.out c D_W4_R.out)
  replace W5 := Lib.hid (SlR.chg jobR_fits W5.out c D_W5_R.out)
  replace Q_W_0 := keep_cell_chg c Q_W_0 M_W_R.out
  replace Q_W_1 := keep_cell_chg c Q_W_1 M_W_R.out
  replace Q_W_2 := keep_cell_chg c Q_W_2 M_W_R.out
  replace Q_W_3 := keep_cell_chg c Q_W_3 M_W_R.out
  replace Q_W_4 := keep_cell_chg c Q_W_4 M_W_R.out
  replace Q_W_5 := keep_cell_chg c Q_W_5 M_W_R.out
  replace Q_R_0 := keep_cell_chg c Q_R_0 M_R_R.out
  replace Q_R_1 := keep_cell_chg c Q_R_1 M_R_R.out
  replace Q_R_2 := keep_cell_chg c Q_R_2 M_R_R.out
  replace Q_R_3 := keep_cell_chg c Q_R_3 M_R_R.out
  replace Q_R_4 := keep_cell_chg c Q_R_4 M_R_R.out
  replace Q_R_5 := keep_cell_chg c Q_R_5 M_R_R.out
  replace W_R := Lib.hid (fun q hq => Nat.lt_of_lt_of_le (W_R.out q hq) c.size)
  replace F_R := Lib.hid fr
  replace B := Lib.hid (B.out.trans (Chg.under c B.out.size LO_R.out))
  replace R0 := Lib.hid mg0
  replace R1 := Lib.hid mg1
  replace R2 := Lib.hid mg2
  replace R3 := Lib.hid mg3
  replace R4 := Lib.hid mg4
  replace R5 := Lib.hid mg5
  clear c fr mg0 mg1 mg2 mg3 mg4 mg5
  go_wp2_with fail
  refine (held_Tlm tlmNew _ _ _ _ _ _ Rf0 Rf1 Rf2 Rf3 Rf4 Rf5 1 (by omega) (by omega) smr.out _ R0.out R1.out R2.out R3.out R4.out R5.out).mono ?_
  rw [← HCR.out]
  rintro e w5 ⟨rfl, b⟩
  replace W0 := Lib.hid (SlR.below intR_fits W0.out b)
  replace W1 := Lib.hid (SlR.below intR_fits W1.out b)
  replace W2 := Lib.hid (SlR.below intR_fits W2.out b)
  replace W3 := Lib.hid (SlR.below jobR_fits W3.out b)
  replace W4 := Lib.hid (SlR.below jobR_fits W4.out b)
  replace W5 := Lib.hid (SlR.below jobR_fits W5.out b)
  replace R0 := Lib.hid (SlR.below intR_fits R0.out b)
  replace R1 := Lib.hid (SlR.below intR_fits R1.out b)
  replace R2 := Lib.hid (SlR.below intR_fits R2.out b)
  replace R3 := Lib.hid (SlR.below jobR_fits R3.out b)
  replace R4 := Lib.hid (SlR.below jobR_fits R4.out b)
  replace R5 := Lib.hid (SlR.below jobR_fits R5.out b)
  replace Q_W_0 := keep_cell b Q_W_0
  replace Q_W_1 := keep_cell b Q_W_1
  replace Q_W_2 := keep_cell b Q_W_2
  replace Q_W_3 := keep_cell b Q_W_3
  replace Q_W_4 := keep_cell b Q_W_4
  replace Q_W_5 := keep_cell b Q_W_5
  replace Q_R_0 := keep_cell b Q_R_0
  replace Q_R_1 := keep_cell b Q_R_1
  replace Q_R_2 := keep_cell b Q_R_2
  replace Q_R_3 := keep_cell b Q_R_3
  replace Q_R_4 := keep_cell b Q_R_4
  replace Q_R_5 := keep_cell b Q_R_5
  replace F_R := Lib.hid (Free.below F_R.out W_R.out b)
  replace W_R := Lib.hid (fun q hq => Nat.lt_of_lt_of_le (W_R.out q hq) b.size)
  replace B := Lib.hid (B.out.trans (b.mono B.out.size))
  clear b
  go_wp2_with fail
  refine (iTlmNew_any  _ ).mono ?_
  rintro e w6 ⟨Hv0, Hf0, Hv1, Hf1, Hv2, Hf2, Hv3, Hf3, Hv4, Hf4, Hv5, Hf5, rfl, Hg0, Hg1, Hg2, Hg3, Hg4, Hg5, n, b⟩
  obtain ⟨Ha0, Hl0, Hk0, rfl⟩ := Hg0.form
  obtain ⟨Ha1, Hl1, Hk1, rfl⟩ := Hg1.form
  obtain ⟨Ha2, Hl2, Hk2, rfl⟩ := Hg2.form
  obtain ⟨Ha3, Hl3, Hk3, rfl⟩ := Hg3.form
  obtain ⟨Ha4, Hl4, Hk4, rfl⟩ := Hg4.form
  obtain ⟨Ha5, Hl5, Hk5, rfl⟩ := Hg5.form
  have E_R_H : Hid (∀ b, b ∈ Hf0 ++ Hf1 ++ Hf2 ++ Hf3 ++ Hf4 ++ Hf5 → b ∉ Rf0 ++ Rf1 ++ Rf2 ++ Rf3 ++ Rf4 ++ Rf5) := Lib.hid (fun b hb hb' => by have h1 := W_R.out b hb'; have h2 := n.lo b hb; (try simp at h1); (try simp at h2); omega)
  replace W0 := Lib.hid (SlR.below intR_fits W0.out b)
  replace W1 := Lib.hid (SlR.below intR_fits W1.out b)
  replace W2 := Lib.hid (SlR.below intR_fits W2.out b)
  replace W3 := Lib.hid (SlR.below jobR_fits W3.out b)
  replace W4 := Lib.hid (SlR.below jobR_fits W4.out b)
  replace W5 := Lib.hid (SlR.below jobR_fits W5.out b)
  replace R0 := Lib.hid (SlR.below intR_fits R0.out b)
  replace R1 := Lib.hid (SlR.below intR_fits R1.out b)
  replace R2 := Lib.hid (SlR.below intR_fits R2.out b)
  replace R3 := Lib.hid (SlR.below jobR_fits R3.out b)
  replace R4 := Lib.hid (SlR.below jobR_fits R4.out b)
  replace R5 := Lib.hid (SlR.below jobR_fits R5.out b)
  replace Q_W_0 := keep_cell b Q_W_0
  replace Q_W_1 := keep_cell b Q_W_1
  replace Q_W_2 := keep_cell b Q_W_2
  replace Q_W_3 := keep_cell b Q_W_3
  replace Q_W_4 := keep_cell b Q_W_4
  replace Q_W_5 := keep_cell b Q_W_5
  replace Q_R_0 := keep_cell b Q_R_0
  replace Q_R_1 := keep_cell b Q_R_1
  replace Q_R_2 := keep_cell b Q_R_2
  replace Q_R_3 := keep_cell b Q_R_3
  replace Q_R_4 := keep_cell b Q_R_4
  replace Q_R_5 := keep_cell b Q_R_5
  replace F_R := Lib.hid (Free.below F_R.out W_R.out b)
  replace W_R := Lib.hid (fun q hq => Nat.lt_of_lt_of_le (W_R.out q hq) b.size)
  replace B := Lib.hid (B.out.trans (b.mono B.out.size))
  have H0 := Lib.hid Hg0
  have H1 := Lib.hid Hg1
  have H2 := Lib.hid Hg2
  have H3 := Lib.hid Hg3
  have H4 := Lib.hid Hg4
  have H5 := Lib.hid Hg5
  clear n b Hg0 Hg1 Hg2 Hg3 Hg4 Hg5
  have ba := below_alloc w6 (.cells #[.slice Ha0 Hl0 Hk0, .slice Ha1 Hl1 Hk1, .slice Ha2 Hl2 Hk2, .slice Ha3 Hl3 Hk3, .slice Ha4 Hl4 Hk4, .slice Ha5 Hl5 Hk5] 57)
  have M_H_R : Hid (w6.heap.size ∉ Rf0 ++ Rf1 ++ Rf2 ++ Rf3 ++ Rf4 ++ Rf5) := Lib.hid (fun hb => by have := W_R.out _ hb; omega)
  replace W0 := Lib.hid (SlR.below intR_fits W0.out ba)
  replace W1 := Lib.hid (SlR.below intR_fits W1.out ba)
  replace W2 := Lib.hid (SlR.below intR_fits W2.out ba)
  replace W3 := Lib.hid (SlR.below jobR_fits W3.out ba)
  replace W4 := Lib.hid (SlR.below jobR_fits W4.out ba)
  replace W5 := Lib.hid (SlR.below jobR_fits W5.out ba)
  replace R0 := Lib.hid (SlR.below intR_fits R0.out ba)
  replace R1 := Lib.hid (SlR.below intR_fits R1.out ba)
  replace R2 := Lib.hid (SlR.below intR_fits R2.out ba)
  replace R3 := Lib.hid (SlR.below jobR_fits R3.out ba)
  replace R4 := Lib.hid (SlR.below jobR_fits R4.out ba)
  replace R5 := Lib.hid (SlR.below jobR_fits R5.out ba)
  replace H0 := Lib.hid (SlR.below intR_fits H0.out ba)
  replace H1 := Lib.hid (SlR.below intR_fits H1.out ba)
  replace H2 := Lib.hid (SlR.below intR_fits H2.out ba)
  replace H3 := Lib.hid (SlR.below jobR_fits H3.out ba)
  replace H4 := Lib.hid (SlR.below jobR_fits H4.out ba)
  replace H5 := Lib.hid (SlR.below jobR_fits H5.out ba)
  replace Q_W_0 := keep_cell ba Q_W_0
  replace Q_W_1 := keep_cell ba Q_W_1
  replace Q_W_2 := keep_cell ba Q_W_2
  replace Q_W_3 := keep_cell ba Q_W_3
  replace Q_W_4 := keep_cell ba Q_W_4
  replace Q_W_5 := keep_cell ba Q_W_5
  replace Q_R_0 := keep_cell ba Q_R_0
  replace Q_R_1 := keep_cell ba Q_R_1
  replace Q_R_2 := keep_cell ba Q_R_2
  replace Q_R_3 := keep_cell ba Q_R_3
  replace Q_R_4 := keep_cell ba Q_R_4
  replace Q_R_5 := keep_cell ba Q_R_5
  replace F_R := Lib.hid (Free.below F_R.out W_R.out ba)
  replace W_R := Lib.hid (fun q hq => Nat.lt_of_lt_of_le (W_R.out q hq) ba.size)
  replace B := Lib.hid (B.out.trans (ba.mono B.out.size))
  have Q_H_0 := alloc1_new w6 #[.slice Ha0 Hl0 Hk0, .slice Ha1 Hl1 Hk1, .slice Ha2 Hl2 Hk2, .slice Ha3 Hl3 Hk3, .slice Ha4 Hl4 Hk4, .slice Ha5 Hl5 Hk5] 57 0 rfl
  have Q_H_1 := alloc1_new w6 #[.slice Ha0 Hl0 Hk0, .slice Ha1 Hl1 Hk1, .slice Ha2 Hl2 Hk2, .slice Ha3 Hl3 Hk3, .slice Ha4 Hl4 Hk4, .slice Ha5 Hl5 Hk5] 57 1 rfl
  have Q_H_2 := alloc1_new w6 #[.slice Ha0 Hl0 Hk0, .slice Ha1 Hl1 Hk1, .slice Ha2 Hl2 Hk2, .slice Ha3 Hl3 Hk3, .slice Ha4 Hl4 Hk4, .slice Ha5 Hl5 Hk5] 57 2 rfl
  have Q_H_3 := alloc1_new w6 #[.slice Ha0 Hl0 Hk0, .slice Ha1 Hl1 Hk1, .slice Ha2 Hl2 Hk2, .slice Ha3 Hl3 Hk3, .slice Ha4 Hl4 Hk4, .slice Ha5 Hl5 Hk5] 57 3 rfl
  have Q_H_4 := alloc1_new w6 #[.slice Ha0 Hl0 Hk0, .slice Ha1 Hl1 Hk1, .slice Ha2 Hl2 Hk2, .slice Ha3 Hl3 Hk3, .slice Ha4 Hl4 Hk4, .slice Ha5 Hl5 Hk5] 57 4 rfl
  have Q_H_5 := alloc1_new w6 #[.slice Ha0 Hl0 Hk0, .slice Ha1 Hl1 Hk1, .slice Ha2 Hl2 Hk2, .slice Ha3 Hl3 Hk3, .slice Ha4 Hl4 Hk4, .slice Ha5 Hl5 Hk5] 57 5 rfl
  clear ba
  go_wp2_with fail
  refine (eq_Tlm tlmNew tlmNew _ _ _ _ _ _ _ _ _ _ _ _ Hf0 Hf1 Hf2 Hf3 Hf4 Hf5 Wf0 Wf1 Wf2 Wf3 Wf4 Wf5 _ H0.out H1.out H2.out H3.out H4.out H5.out W0.out W1.out W2.out W3.out W4.out W5.out).mono ?_
  rw [decide_eq_true rfl]
  rintro e w7 ⟨rfl, b⟩
  replace W0 := Lib.hid (SlR.below intR_fits W0.out b)
  replace W1 := Lib.hid (SlR.below intR_fits W1.out b)
  replace W2 := Lib.hid (SlR.below intR_fits W2.out b)
  replace W3 := Lib.hid (SlR.below jobR_fits W3.out b)
  replace W4 := Lib.hid (SlR.below jobR_fits W4.out b)
  replace W5 := Lib.hid (SlR.below jobR_fits W5.out b)
  replace R0 := Lib.hid (SlR.below intR_fits R0.out b)
  replace R1 := Lib.hid (SlR.below intR_fits R1.out b)
  replace R2 := Lib.hid (SlR.below intR_fits R2.out b)
  replace R3 := Lib.hid (SlR.below jobR_fits R3.out b)
  replace R4 := Lib.hid (SlR.below jobR_fits R4.out b)
  replace R5 := Lib.hid (SlR.below jobR_fits R5.out b)
  replace H0 := Lib.hid (SlR.below intR_fits H0.out b)
  replace H1 := Lib.hid (SlR.below intR_fits H1.out b)
  replace H2 := Lib.hid (SlR.below intR_fits H2.out b)
  replace H3 := Lib.hid (SlR.below jobR_fits H3.out b)
  replace H4 := Lib.hid (SlR.below jobR_fits H4.out b)
  replace H5 := Lib.hid (SlR.below jobR_fits H5.out b)
  replace Q_W_0 := keep_cell b Q_W_0
  replace Q_W_1 := keep_cell b Q_W_1
  replace Q_W_2 := keep_cell b Q_W_2
  replace Q_W_3 := keep_cell b Q_W_3
  replace Q_W_4 := keep_cell b Q_W_4
  replace Q_W_5 := keep_cell b Q_W_5
  replace Q_R_0 := keep_cell b Q_R_0
  replace Q_R_1 := keep_cell b Q_R_1
  replace Q_R_2 := keep_cell b Q_R_2
  replace Q_R_3 := keep_cell b Q_R_3
  replace Q_R_4 := keep_cell b Q_R_4
  replace Q_R_5 := keep_cell b Q_R_5
  replace Q_H_0 := keep_cell b Q_H_0
  replace Q_H_1 := keep_cell b Q_H_1
  replace Q_H_2 := keep_cell b Q_H_2
  replace Q_H_3 := keep_cell b Q_H_3
  replace Q_H_4 := keep_cell b Q_H_4
  replace Q_H_5 := keep_cell b Q_H_5
  replace F_R := Lib.hid (Free.below F_R.out W_R.out b)
  replace W_R := Lib.hid (fun q hq => Nat.lt_of_lt_of_le (W_R.out q hq) b.size)
  replace B := Lib.hid (B.out.trans (b.mono B.out.size))
  clear b
  go_wp2_with fail
  refine (held_Tlm tlmNew _ _ _ _ _ _ Rf0 Rf1 Rf2 Rf3 Rf4 Rf5 1 (by omega) (by omega) smr.out _ R0.out R1.out R2.out R3.out R4.out R5.out).mono ?_
  rw [← HCR.out]
  rintro e w8 ⟨rfl, b⟩
  replace W0 := Lib.hid (SlR.below intR_fits W0.out b)
  replace W1 := Lib.hid (SlR.below intR_fits W1.out b)
  replace W2 := Lib.hid (SlR.below intR_fits W2.out b)
  replace W3 := Lib.hid (SlR.below jobR_fits W3.out b)
  replace W4 := Lib.hid (SlR.below jobR_fits W4.out b)
  replace W5 := Lib.hid (SlR.below jobR_fits W5.out b)
  replace R0 := Lib.hid (SlR.below intR_fits R0.out b)
  replace R1 := Lib.hid (SlR.below intR_fits R1.out b)
  replace R2 := Lib.hid (SlR.below intR_fits R2.out b)
  replace R3 := Lib.hid (SlR.below jobR_fits R3.out b)
  replace R4 := Lib.hid (SlR.below jobR_fits R4.out b)
  replace R5 := Lib.hid (SlR.below jobR_fits R5.out b)
  replace H0 := Lib.hid (SlR.below intR_fits H0.out b)
  replace H1 := Lib.hid (SlR.below intR_fits H1.out b)
  replace H2 := Lib.hid (SlR.below intR_fits H2.out b)
  replace H3 := Lib.hid (SlR.below jobR_fits H3.out b)
  replace H4 := Lib.hid (SlR.below jobR_fits H4.out b)
  replace H5 := Lib.hid (SlR.below jobR_fits H5.out b)
  replace Q_W_0 := keep_cell b Q_W_0
  replace Q_W_1 := keep_cell b Q_W_1
  replace Q_W_2 := keep_cell b Q_W_2
  replace Q_W_3 := keep_cell b Q_W_3
  replace Q_W_4 := keep_cell b Q_W_4
  replace Q_W_5 := keep_cell b Q_W_5
  replace Q_R_0 := keep_cell b Q_R_0
  replace Q_R_1 := keep_cell b Q_R_1
  replace Q_R_2 := keep_cell b Q_R_2
  replace Q_R_3 := keep_cell b Q_R_3
  replace Q_R_4 := keep_cell b Q_R_4
  replace Q_R_5 := keep_cell b Q_R_5
  replace Q_H_0 := keep_cell b Q_H_0
  replace Q_H_1 := keep_cell b Q_H_1
  replace Q_H_2 := keep_cell b Q_H_2
  replace Q_H_3 := keep_cell b Q_H_3
  replace Q_H_4 := keep_cell b Q_H_4
  replace Q_H_5 := keep_cell b Q_H_5
  replace F_R := Lib.hid (Free.below F_R.out W_R.out b)
  replace W_R := Lib.hid (fun q hq => Nat.lt_of_lt_of_le (W_R.out q hq) b.size)
  replace B := Lib.hid (B.out.trans (b.mono B.out.size))
  clear b
  go_wp2
  go_ret
  exact ⟨rfl, B.out⟩


set_option maxRecDepth 100000 in
theorem lifted (os : Os) (started : os.Started) (H : Type) (enc : TypeId × Value → H) :
    ReturnsInHanded {} Try.checked os 8 .any (Rows.fnExactTlmNewSpec.pre6 enc Try.prog Try.f8 Rows.fnExactTlmNewRow.domain false) (Rows.fnExactTlmNewSpec.post enc Try.prog Try.f8 false true false false) := by
  refine returnsInHanded_of_change (C := Try.checked) own started (by kernel_rfl) Try.func8
    (ChangeSpec.witness6 (enc := enc) (C := Try.checked) false ⟨#[], #[], []⟩ 8 (by kernel_rfl) (by kernel_rfl) (by kernel_rfl) (by kernel_rfl)) ?_
  intro W base args ds gs before hval0 hW hcnd _
  have hval : ∀ (j : Nat) t v, Try.f8.params[j]? = some t → args[j]? = some v → Value.okWide Try.prog W .any base t v := hval0
  have hW' := hW
  obtain ⟨p, q, hA0, hV, rfl, hfz, hnd⟩ := hW
  have hA : DataW.TrodAll enc Try.prog W 0 (fun _ => true) true Try.f8.params.toList args.toList ds p := hA0
  rw [Try.params8] at hA hval
  obtain ⟨rfl, rfl, rfl⟩ := trodAll_none hA
  obtain ⟨rfl, rfl⟩ := trodVars_none hV
  clear hA0 hval0
  simp only [List.append_nil] at hW'
  refine (walk  W ).mono fun e W' ⟨he, hb⟩ => ?_
  subst he
  exact ⟨_, rfl, _, _, _, [], _, [], hW', (trodAll_cons_mk (shut_bool Try.underlying4 _) trodAll_mk0), trodAll_mk0, rfl, hb.frame _, fun h => by cases h⟩

theorem over : Rows.fnExactTlmNewRow.holds Try.pinned (OpenSpec.ofChange Rows.fnExactTlmNewSpec) :=
  OpenClaim.holds_of_wide 8 Try.f8 rfl rfl rfl rfl rfl rfl rfl ⟨rfl, rfl, rfl, rfl, rfl⟩ rfl rfl rfl rfl rfl (by kernel_rfl) Try.func8 (by kernel_rfl)
    (of_decide_eq_true (by kernel_rfl)) (by unfold Func.isWrapper; first | (rw [if_pos (by decide +kernel)]; kernel_rfl) | (rw [if_neg (by decide +kernel)]; exact ⟨rfl, rfl⟩))
    (fun os started H enc _ => lifted os started H enc)

theorem proved : Rows.FnExactTlmNewSaid :=
  over
#print axioms proved
end Go.Proofs.Ytjapdkjfnmjicaa.fnExactTlmNew
