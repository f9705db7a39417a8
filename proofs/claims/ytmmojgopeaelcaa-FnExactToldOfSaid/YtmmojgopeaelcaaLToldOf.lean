/-
  Proved: the Go function laws.FnExactToldOf returns true for all arguments, and the arguments read afterwards as before: the program's ToldOf answers as the reference's, in new memory.
  Conditions: none.
-/
import Derived.Test.YtmmojgopeaelcaaLift
import Derived.Test.YtmmojgopeaelcaaTold4
import Derived.Test.YtmmojgopeaelcaaJobMark
namespace Go.Proofs.Ytmmojgopeaelcaa.fnExactToldOf
set_option linter.unusedVariables false
set_option linter.unusedSimpArgs false
open Go.ChangeShapes Go.WideShapes Go.ChangeAt Go.RowKit

theorem sm_FnExactToldOf (l : List Job) (who : Int) (h : sm_jobs l) : sm_jobs (toldOf l who) := toldOf_sm h

set_option maxRecDepth 100000 in
set_option maxHeartbeats 6400000 in
theorem walk (v0 : Value) (x0 : List Job) (fp0 : List Nat) (x1 : Int) (w : World) (h0 : SlR 5 jobR w x0 v0 fp0) :
    Calls Try.prog 5 #[v0, .int .i64 x1] w fun e w' => e = .returned (.bool true) ∧ Below w.heap.size w w' := by
  obtain ⟨al0, ln0, kn0, rfl⟩ := h0.form
  have A0 := Lib.hid h0
  clear h0
  have B := Lib.hid (Below.refl w.heap.size w)
  go_enter Try.func5, Try.ntmps5
  go_wp2_with fail
  refine (sz_jobs _ x0 fp0 1048576 (by omega) (by omega) _ A0.out).mono ?_
  rintro e w1 ⟨z0, rfl, le0, sm0, b⟩
  replace A0 := Lib.hid (SlR.below jobR_fits A0.out b)
  replace B := Lib.hid (B.out.trans (b.mono B.out.size))
  clear b
  have S0 := Lib.hid sm0
  clear sm0
  cases hz0 : decide (z0 < 0)
  case' true =>
    go_wp2
    go_ret
    exact ⟨rfl, B.out⟩
  have pz0 : 0 ≤ z0 := by have := of_decide_eq_false hz0; omega
  have SM0 := Lib.hid (S0.out pz0)
  clear S0
  have smr := Lib.hid (sm_FnExactToldOf x0 x1 SM0.out)
  go_wp2_with fail
  refine (to_jobs _ x0 fp0 SM0.out _ A0.out).mono ?_
  rintro e w2 ⟨S0_v0, S0_f0, rfl, S0_g0, n, b⟩
  obtain ⟨S0_a0, S0_l0, S0_k0, rfl⟩ := S0_g0.form
  replace A0 := Lib.hid (SlR.below jobR_fits A0.out b)
  replace B := Lib.hid (B.out.trans (b.mono B.out.size))
  have S0_0 := Lib.hid S0_g0
  clear n b S0_g0
  go_wp2_with fail
  refine (sToldOf_any _ x0 S0_f0 x1 SM0.out _ S0_0.out).mono ?_
  rintro e w3 ⟨Wv0, Wf0, rfl, Wg0, n, b⟩
  obtain ⟨Wa0, Wl0, Wk0, rfl⟩ := Wg0.form
  replace A0 := Lib.hid (SlR.below jobR_fits A0.out b)
  replace S0_0 := Lib.hid (SlR.below jobR_fits S0_0.out b)
  replace B := Lib.hid (B.out.trans (b.mono B.out.size))
  have W0 := Lib.hid Wg0
  clear n b Wg0
  clear S0_0
  go_wp2_with fail
  refine (to_jobs _ x0 fp0 SM0.out _ A0.out).mono ?_
  rintro e w4 ⟨X0_v0, X0_f0, rfl, X0_g0, n, b⟩
  obtain ⟨X0_a0, X0_l0, X0_k0, rfl⟩ := X0_g0.form
  have D_A0_X0_ : Hid (∀ b, b ∈ fp0 → b ∉ X0_f0) := Lib.hid (fun b hb hb' => by have h1 := SlR.lt jobR_fits A0.out b hb; have h2 := n.lo b hb'; (try simp at h1); (try simp at h2); omega)
  have D_W0_X0_ : Hid (∀ b, b ∈ Wf0 → b ∉ X0_f0) := Lib.hid (fun b hb hb' => by have h1 := SlR.lt jobR_fits W0.out b hb; have h2 := n.lo b hb'; (try simp at h1); (try simp at h2); omega)
  have LO_X0_ : Hid (∀ b, b ∈ X0_f0 → w.heap.size ≤ b) := Lib.hid (fun b hb => by have h1 := n.lo b hb; have h2 := B.out.size; (try simp at h1); (try simp at h2); omega)
  replace A0 := Lib.hid (SlR.below jobR_fits A0.out b)
  replace W0 := Lib.hid (SlR.below jobR_fits W0.out b)
  replace B := Lib.hid (B.out.trans (b.mono B.out.size))
  have X0_0 := Lib.hid X0_g0
  have F_X0_ := Lib.hid n.free
  have ON_X0_ := Lib.hid n.once
  have W_X0_ : Hid (∀ b, b ∈ X0_f0 → b < w4.heap.size) := Lib.hid (X0_g0.lt jobR_fits)
  clear n b X0_g0
  go_wp2_with fail
  refine (iToldOf_any _ x0 X0_f0 x1 SM0.out _ X0_0.out).mono ?_
  rintro e w5 ⟨Rv0, Rf0, rfl, Rg0, n, b⟩
  obtain ⟨Ra0, Rl0, Rk0, rfl⟩ := Rg0.form
  have D_A0_R : Hid (∀ b, b ∈ fp0 → b ∉ Rf0) := Lib.hid (fun b hb hb' => by have h1 := SlR.lt jobR_fits A0.out b hb; have h2 := n.lo b hb'; (try simp at h1); (try simp at h2); omega)
  have D_W0_R : Hid (∀ b, b ∈ Wf0 → b ∉ Rf0) := Lib.hid (fun b hb hb' => by have h1 := SlR.lt jobR_fits W0.out b hb; have h2 := n.lo b hb'; (try simp at h1); (try simp at h2); omega)
  have D_X0_0_R : Hid (∀ b, b ∈ X0_f0 → b ∉ Rf0) := Lib.hid (fun b hb hb' => by have h1 := SlR.lt jobR_fits X0_0.out b hb; have h2 := n.lo b hb'; (try simp at h1); (try simp at h2); omega)
  have LO_R : Hid (∀ b, b ∈ Rf0 → w.heap.size ≤ b) := Lib.hid (fun b hb => by have h1 := n.lo b hb; have h2 := B.out.size; (try simp at h1); (try simp at h2); omega)
  have E_X0__R : Hid (∀ b, b ∈ Rf0 → b ∉ X0_f0) := Lib.hid (fun b hb hb' => by have h1 := W_X0_.out b hb'; have h2 := n.lo b hb; (try simp at h1); (try simp at h2); omega)
  replace A0 := Lib.hid (SlR.below jobR_fits A0.out b)
  replace W0 := Lib.hid (SlR.below jobR_fits W0.out b)
  replace X0_0 := Lib.hid (SlR.below jobR_fits X0_0.out b)
  replace F_X0_ := Lib.hid (Free.below F_X0_.out W_X0_.out b)
  replace W_X0_ := Lib.hid (fun q hq => Nat.lt_of_lt_of_le (W_X0_.out q hq) b.size)
  replace B := Lib.hid (B.out.trans (b.mono B.out.size))
  have R0 := Lib.hid Rg0
  have F_R := Lib.hid n.free
  have ON_R := Lib.hid n.once
  have W_R : Hid (∀ b, b ∈ Rf0 → b < w5.heap.size) := Lib.hid (Rg0.lt jobR_fits)
  clear n b Rg0
  go_wp2_with fail
  refine (eq_jobs _ _ (toldOf x0 x1) (toldOf x0 x1) Rf0 Wf0 _ R0.out W0.out).mono ?_
  rw [decide_eq_true rfl]
  rintro e w6 ⟨rfl, b⟩
  replace A0 := Lib.hid (SlR.below jobR_fits A0.out b)
  replace W0 := Lib.hid (SlR.below jobR_fits W0.out b)
  replace X0_0 := Lib.hid (SlR.below jobR_fits X0_0.out b)
  replace R0 := Lib.hid (SlR.below jobR_fits R0.out b)
  replace F_X0_ := Lib.hid (Free.below F_X0_.out W_X0_.out b)
  replace W_X0_ := Lib.hid (fun q hq => Nat.lt_of_lt_of_le (W_X0_.out q hq) b.size)
  replace F_R := Lib.hid (Free.below F_R.out W_R.out b)
  replace W_R := Lib.hid (fun q hq => Nat.lt_of_lt_of_le (W_R.out q hq) b.size)
  replace B := Lib.hid (B.out.trans (b.mono B.out.size))
  clear b
  go_wp2_with fail
  refine (to_jobs _ x0 fp0 SM0.out _ A0.out).mono ?_
  rintro e w7 ⟨Z0_v0, Z0_f0, rfl, Z0_g0, n, b⟩
  obtain ⟨Z0_a0, Z0_l0, Z0_k0, rfl⟩ := Z0_g0.form
  have E_X0__Z0_ : Hid (∀ b, b ∈ Z0_f0 → b ∉ X0_f0) := Lib.hid (fun b hb hb' => by have h1 := W_X0_.out b hb'; have h2 := n.lo b hb; (try simp at h1); (try simp at h2); omega)
  have E_R_Z0_ : Hid (∀ b, b ∈ Z0_f0 → b ∉ Rf0) := Lib.hid (fun b hb hb' => by have h1 := W_R.out b hb'; have h2 := n.lo b hb; (try simp at h1); (try simp at h2); omega)
  replace A0 := Lib.hid (SlR.below jobR_fits A0.out b)
  replace W0 := Lib.hid (SlR.below jobR_fits W0.out b)
  replace X0_0 := Lib.hid (SlR.below jobR_fits X0_0.out b)
  replace R0 := Lib.hid (SlR.below jobR_fits R0.out b)
  replace F_X0_ := Lib.hid (Free.below F_X0_.out W_X0_.out b)
  replace W_X0_ := Lib.hid (fun q hq => Nat.lt_of_lt_of_le (W_X0_.out q hq) b.size)
  replace F_R := Lib.hid (Free.below F_R.out W_R.out b)
  replace W_R := Lib.hid (fun q hq => Nat.lt_of_lt_of_le (W_R.out q hq) b.size)
  replace B := Lib.hid (B.out.trans (b.mono B.out.size))
  have Z0_0 := Lib.hid Z0_g0
  clear n b Z0_g0
  go_wp2_with fail
  refine (eq_jobs _ _ x0 x0 X0_f0 Z0_f0 _ X0_0.out Z0_0.out).mono ?_
  rw [decide_eq_true rfl]
  rintro e w8 ⟨rfl, b⟩
  replace A0 := Lib.hid (SlR.below jobR_fits A0.out b)
  replace W0 := Lib.hid (SlR.below jobR_fits W0.out b)
  replace X0_0 := Lib.hid (SlR.below jobR_fits X0_0.out b)
  replace R0 := Lib.hid (SlR.below jobR_fits R0.out b)
  replace Z0_0 := Lib.hid (SlR.below jobR_fits Z0_0.out b)
  replace F_X0_ := Lib.hid (Free.below F_X0_.out W_X0_.out b)
  replace W_X0_ := Lib.hid (fun q hq => Nat.lt_of_lt_of_le (W_X0_.out q hq) b.size)
  replace F_R := Lib.hid (Free.below F_R.out W_R.out b)
  replace W_R := Lib.hid (fun q hq => Nat.lt_of_lt_of_le (W_R.out q hq) b.size)
  replace B := Lib.hid (B.out.trans (b.mono B.out.size))
  clear b
  clear Z0_0
  go_wp2_with fail
  have hc0 := cnt_jobs_in SM0.out
  obtain ⟨c0, hcc0⟩ : ∃ c, c = cnt_jobs x0 := ⟨_, rfl⟩
  rw [← hcc0] at hc0
  have lc0 := hc0.1
  have uc0 := hc0.2
  have HC0 := Lib.hid hcc0
  clear hc0 hcc0
  refine (mark_jobs _ x0 X0_f0 1 (by omega) (by omega) SM0.out _ X0_0.out F_X0_.out ON_X0_.out).mono ?_
  rw [← HC0.out]
  rintro e w9 ⟨rfl, mg0, c, fr⟩
  replace A0 := Lib.hid (SlR.chg jobR_fits A0.out c D_A0_X0_.out)
  replace W0 := Lib.hid (SlR.chg jobR_fits W0.out c D_W0_X0_.out)
  replace R0 := Lib.hid (SlR.chg jobR_fits R0.out c (fun b hb hb' => E_X0__R.out b (by simp [hb]) hb'))
  replace F_R := Lib.hid (Free.chg F_R.out W_R.out c (fun b hb hb' => E_X0__R.out b hb hb'))
  replace W_X0_ := Lib.hid (fun q hq => Nat.lt_of_lt_of_le (W_X0_.out q hq) c.size)
  replace W_R := Lib.hid (fun q hq => Nat.lt_of_lt_of_le (W_R.out q hq) c.size)
  replace F_X0_ := Lib.hid fr
  replace B := Lib.hid (B.out.trans (Chg.under c B.out.size LO_X0_.out))
  replace X0_0 := Lib.hid mg0
  clear c fr mg0
  have kp0 : 0 ≤ (1 + c0) := by omega
  go_wp2_with fail
  refine (eq_jobs _ _ (toldOf x0 x1) (toldOf x0 x1) Rf0 Wf0 _ R0.out W0.out).mono ?_
  rw [decide_eq_true rfl]
  rintro e w10 ⟨rfl, b⟩
  replace A0 := Lib.hid (SlR.below jobR_fits A0.out b)
  replace W0 := Lib.hid (SlR.below jobR_fits W0.out b)
  replace X0_0 := Lib.hid (SlR.below jobR_fits X0_0.out b)
  replace R0 := Lib.hid (SlR.below jobR_fits R0.out b)
  replace F_X0_ := Lib.hid (Free.below F_X0_.out W_X0_.out b)
  replace W_X0_ := Lib.hid (fun q hq => Nat.lt_of_lt_of_le (W_X0_.out q hq) b.size)
  replace F_R := Lib.hid (Free.below F_R.out W_R.out b)
  replace W_R := Lib.hid (fun q hq => Nat.lt_of_lt_of_le (W_R.out q hq) b.size)
  replace B := Lib.hid (B.out.trans (b.mono B.out.size))
  clear b
  go_wp2_with fail
  have hcr := cnt_jobs_in smr.out
  obtain ⟨cr, hccr⟩ : ∃ c, c = cnt_jobs ((toldOf x0 x1)) := ⟨_, rfl⟩
  rw [← hccr] at hcr
  have lcr := hcr.1
  have ucr := hcr.2
  have HCR := Lib.hid hccr
  clear hcr hccr
  have kpr : 0 ≤ 1 + cr := by omega
  refine (mark_jobs _ (toldOf x0 x1) Rf0 1 (by omega) (by omega) smr.out _ R0.out F_R.out ON_R.out).mono ?_
  rw [← HCR.out]
  rintro e w11 ⟨rfl, mg0, c, fr⟩
  replace A0 := Lib.hid (SlR.chg jobR_fits A0.out c D_A0_R.out)
  replace W0 := Lib.hid (SlR.chg jobR_fits W0.out c D_W0_R.out)
  replace X0_0 := Lib.hid (SlR.chg jobR_fits X0_0.out c D_X0_0_R.out)
  replace F_X0_ := Lib.hid (Free.chg F_X0_.out W_X0_.out c (fun b hb hb' => E_X0__R.out b hb' hb))
  replace W_X0_ := Lib.hid (fun q hq => Nat.lt_of_lt_of_le (W_X0_.out q hq) c.size)
  replace W_R := Lib.hid (fun q hq => Nat.lt_of_lt_of_le (W_R.out q hq) c.size)
  replace F_R := Lib.hid fr
  replace B := Lib.hid (B.out.trans (Chg.under c B.out.size LO_R.out))
  replace R0 := Lib.hid mg0
  clear c fr mg0
  go_wp2_with fail
  refine (held_jobs _ (toldOf x0 x1) Rf0 1 (by omega) (by omega) smr.out _ R0.out).mono ?_
  rw [← HCR.out]
  rintro e w12 ⟨rfl, b⟩
  replace A0 := Lib.hid (SlR.below jobR_fits A0.out b)
  replace W0 := Lib.hid (SlR.below jobR_fits W0.out b)
  replace X0_0 := Lib.hid (SlR.below jobR_fits X0_0.out b)
  replace R0 := Lib.hid (SlR.below jobR_fits R0.out b)
  replace F_X0_ := Lib.hid (Free.below F_X0_.out W_X0_.out b)
  replace W_X0_ := Lib.hid (fun q hq => Nat.lt_of_lt_of_le (W_X0_.out q hq) b.size)
  replace F_R := Lib.hid (Free.below F_R.out W_R.out b)
  replace W_R := Lib.hid (fun q hq => Nat.lt_of_lt_of_le (W_R.out q hq) b.size)
  replace B := Lib.hid (B.out.trans (b.mono B.out.size))
  clear b
  go_wp2_with fail
  refine (to_jobs _ x0 fp0 SM0.out _ A0.out).mono ?_
  rintro e w13 ⟨Y0_v0, Y0_f0, rfl, Y0_g0, n, b⟩
  obtain ⟨Y0_a0, Y0_l0, Y0_k0, rfl⟩ := Y0_g0.form
  have E_X0__Y0_ : Hid (∀ b, b ∈ Y0_f0 → b ∉ X0_f0) := Lib.hid (fun b hb hb' => by have h1 := W_X0_.out b hb'; have h2 := n.lo b hb; (try simp at h1); (try simp at h2); omega)
  have E_R_Y0_ : Hid (∀ b, b ∈ Y0_f0 → b ∉ Rf0) := Lib.hid (fun b hb hb' => by have h1 := W_R.out b hb'; have h2 := n.lo b hb; (try simp at h1); (try simp at h2); omega)
  replace A0 := Lib.hid (SlR.below jobR_fits A0.out b)
  replace W0 := Lib.hid (SlR.below jobR_fits W0.out b)
  replace X0_0 := Lib.hid (SlR.below jobR_fits X0_0.out b)
  replace R0 := Lib.hid (SlR.below jobR_fits R0.out b)
  replace F_X0_ := Lib.hid (Free.below F_X0_.out W_X0_.out b)
  replace W_X0_ := Lib.hid (fun q hq => Nat.lt_of_lt_of_le (W_X0_.out q hq) b.size)
  replace F_R := Lib.hid (Free.below F_R.out W_R.out b)
  replace W_R := Lib.hid (fun q hq => Nat.lt_of_lt_of_le (W_R.out q hq) b.size)
  replace B := Lib.hid (B.out.trans (b.mono B.out.size))
  have Y0_0 := Lib.hid Y0_g0
  clear n b Y0_g0
  go_wp2_with fail
  refine (iToldOf_any _ x0 Y0_f0 x1 SM0.out _ Y0_0.out).mono ?_
  rintro e w14 ⟨Hv0, Hf0, rfl, Hg0, n, b⟩
  obtain ⟨Ha0, Hl0, Hk0, rfl⟩ := Hg0.form
  have E_X0__H : Hid (∀ b, b ∈ Hf0 → b ∉ X0_f0) := Lib.hid (fun b hb hb' => by have h1 := W_X0_.out b hb'; have h2 := n.lo b hb; (try simp at h1); (try simp at h2); omega)
  have E_R_H : Hid (∀ b, b ∈ Hf0 → b ∉ Rf0) := Lib.hid (fun b hb hb' => by have h1 := W_R.out b hb'; have h2 := n.lo b hb; (try simp at h1); (try simp at h2); omega)
  replace A0 := Lib.hid (SlR.below jobR_fits A0.out b)
  replace W0 := Lib.hid (SlR.below jobR_fits W0.out b)
  replace X0_0 := Lib.hid (SlR.below jobR_fits X0_0.out b)
  replace R0 := Lib.hid (SlR.below jobR_fits R0.out b)
  replace Y0_0 := Lib.hid (SlR.below jobR_fits Y0_0.out b)
  replace F_X0_ := Lib.hid (Free.below F_X0_.out W_X0_.out b)
  replace W_X0_ := Lib.hid (fun q hq => Nat.lt_of_lt_of_le (W_X0_.out q hq) b.size)
  replace F_R := Lib.hid (Free.below F_R.out W_R.out b)
  replace W_R := Lib.hid (fun q hq => Nat.lt_of_lt_of_le (W_R.out q hq) b.size)
  replace B := Lib.hid (B.out.trans (b.mono B.out.size))
  have H0 := Lib.hid Hg0
  clear n b Hg0
  clear Y0_0
  go_wp2_with fail
  refine (eq_jobs _ _ (toldOf x0 x1) (toldOf x0 x1) Hf0 Wf0 _ H0.out W0.out).mono ?_
  rw [decide_eq_true rfl]
  rintro e w15 ⟨rfl, b⟩
  replace A0 := Lib.hid (SlR.below jobR_fits A0.out b)
  replace W0 := Lib.hid (SlR.below jobR_fits W0.out b)
  replace X0_0 := Lib.hid (SlR.below jobR_fits X0_0.out b)
  replace R0 := Lib.hid (SlR.below jobR_fits R0.out b)
  replace H0 := Lib.hid (SlR.below jobR_fits H0.out b)
  replace F_X0_ := Lib.hid (Free.below F_X0_.out W_X0_.out b)
  replace W_X0_ := Lib.hid (fun q hq => Nat.lt_of_lt_of_le (W_X0_.out q hq) b.size)
  replace F_R := Lib.hid (Free.below F_R.out W_R.out b)
  replace W_R := Lib.hid (fun q hq => Nat.lt_of_lt_of_le (W_R.out q hq) b.size)
  replace B := Lib.hid (B.out.trans (b.mono B.out.size))
  clear b
  go_wp2_with fail
  refine (held_jobs _ (toldOf x0 x1) Rf0 1 (by omega) (by omega) smr.out _ R0.out).mono ?_
  rw [← HCR.out]
  rintro e w16 ⟨rfl, b⟩
  replace A0 := Lib.hid (SlR.below jobR_fits A0.out b)
  replace W0 := Lib.hid (SlR.below jobR_fits W0.out b)
  replace X0_0 := Lib.hid (SlR.below jobR_fits X0_0.out b)
  replace R0 := Lib.hid (SlR.below jobR_fits R0.out b)
  replace H0 := Lib.hid (SlR.below jobR_fits H0.out b)
  replace F_X0_ := Lib.hid (Free.below F_X0_.out W_X0_.out b)
  replace W_X0_ := Lib.hid (fun q hq => Nat.lt_of_lt_of_le (W_X0_.out q hq) b.size)
  replace F_R := Lib.hid (Free.below F_R.out W_R.out b)
  replace W_R := Lib.hid (fun q hq => Nat.lt_of_lt_of_le (W_R.out q hq) b.size)
  replace B := Lib.hid (B.out.trans (b.mono B.out.size))
  clear b
  go_wp2
  go_ret
  exact ⟨rfl, B.out⟩


set_option maxRecDepth 100000 in
theorem lifted (os : Os) (started : os.Started) (H : Type) (enc : TypeId × Value → H) :
    ReturnsInHanded {} Try.checked os 5 .any (Rows.fnExactToldOfSpec.pre6 enc Try.prog Try.f5 Rows.fnExactToldOfRow.domain false) (Rows.fnExactToldOfSpec.post enc Try.prog Try.f5 false true false false) := by
  refine returnsInHanded_of_change (C := Try.checked) own started (by kernel_rfl) Try.func5
    (ChangeSpec.witness6 (enc := enc) (C := Try.checked) false ⟨#[], #[.slice none 0 0, .int .i64 0], []⟩ 8 (by kernel_rfl) (by kernel_rfl) (by kernel_rfl) (by kernel_rfl)) ?_
  intro W base args ds gs before hval0 hW hcnd _
  have hval : ∀ (j : Nat) t v, Try.f5.params[j]? = some t → args[j]? = some v → Value.okWide Try.prog W .any base t v := hval0
  have hW' := hW
  obtain ⟨p, q, hA0, hV, rfl, hfz, hnd⟩ := hW
  have hA : DataW.TrodAll enc Try.prog W 0 (fun _ => true) true Try.f5.params.toList args.toList ds p := hA0
  rw [Try.params5] at hA hval
  obtain ⟨v0, vs0, d0, ds0, p0, q0, hargs, rfl, rfl, h0, r0⟩ := trodAll_cons hA
  obtain ⟨v1, vs1, d1, ds1, p1, q1, rfl, rfl, rfl, h1, r1⟩ := trodAll_cons r0
  obtain ⟨rfl, rfl, rfl⟩ := trodAll_nil r1
  obtain rfl : args = #[v0, v1] := by cases args; simp_all
  obtain ⟨rfl, rfl⟩ := trodVars_none hV
  clear hA0 hval0
  simp only [List.append_nil] at hW'
  have hlt0 : ∀ x ∈ p0, x.block < W.heap.size := fun x hx => by simpa using hW'.lt x (by simp [hx])
  have hk0 := h0
  obtain ⟨ad0, len0, cap0, rfl⟩ := okWide_slice Try.underlying42 (hval 0 42 v0 rfl rfl)
  obtain ⟨fuel0, hf0⟩ := h0
  obtain ⟨x0, fp0, y0, e0, g0⟩ := opens_jobs hf0
  obtain rfl : .slice ad0 len0 cap0 = y0 := by simpa [Value.cells] using e0
  obtain ⟨a1, rfl, rfl, rfl, w1⟩ := open_int Try.underlying3 (hval 1 3 v1 rfl rfl) h1
  refine (walk (.slice ad0 len0 cap0) x0 fp0 a1 W g0).mono fun e W' ⟨he, hb⟩ => ?_
  subst he
  exact ⟨_, rfl, _, _, _, [], _, [], hW', (trodAll_cons_mk (shut_bool Try.underlying4 _) trodAll_mk0), (trodAll_cons_mk (Below.trod laidOut (by kernel_rfl) (of_decide_eq_true (by kernel_rfl)) hk0 hb hlt0) (trodAll_cons_mk (shut_int Try.underlying3 w1) trodAll_mk0)), rfl, hb.frame _, fun h => by cases h⟩

theorem over : Rows.fnExactToldOfRow.holds Try.pinned (OpenSpec.ofChange Rows.fnExactToldOfSpec) :=
  OpenClaim.holds_of_wide 5 Try.f5 rfl rfl rfl rfl rfl rfl rfl ⟨rfl, rfl, rfl, rfl, rfl⟩ rfl rfl rfl rfl rfl (by kernel_rfl) Try.func5 (by kernel_rfl)
    (of_decide_eq_true (by kernel_rfl)) (by unfold Func.isWrapper; first | (rw [if_pos (by decide +kernel)]; kernel_rfl) | (rw [if_neg (by decide +kernel)]; exact ⟨rfl, rfl⟩))
    (fun os started H enc _ => lifted os started H enc)

theorem proved : Rows.FnExactToldOfSaid :=
  over
#print axioms proved
end Go.Proofs.Ytmmojgopeaelcaa.fnExactToldOf
