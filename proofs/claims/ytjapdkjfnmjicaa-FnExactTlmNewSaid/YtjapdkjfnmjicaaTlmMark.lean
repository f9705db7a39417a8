/-
  markTlmState, heldTlmState.
-/
import Derived.Test.YtjapdkjfnmjicaaProg
import Derived.Test.YtjapdkjfnmjicaaBase
import Derived.Test.YtjapdkjfnmjicaaTlm
import Derived.Test.YtjapdkjfnmjicaaAtmMark
import Derived.Test.YtjapdkjfnmjicaaJobMark
import Derived.WalkSmall
namespace Go.Proofs.Ytjapdkjfnmjicaa
set_option linter.unusedVariables false
set_option linter.unusedSimpArgs false
open Go.RowKit

def mk_Tlm (k : Int) (x : Tlm) : Tlm := ⟨mk_Atm (k) x.atm, mk_ints (k + cnt_Atm x.atm) x.asked, mk_jobs (k + cnt_Atm x.atm + cnt_ints x.asked) x.wait, mk_jobs (k + cnt_Atm x.atm + cnt_ints x.asked + cnt_jobs x.wait) x.done, mk_jobs (k + cnt_Atm x.atm + cnt_ints x.asked + cnt_jobs x.wait + cnt_jobs x.done) x.told⟩
def cnt_Tlm (x : Tlm) : Int := cnt_Atm x.atm + cnt_ints x.asked + cnt_jobs x.wait + cnt_jobs x.done + cnt_jobs x.told
theorem cnt_Tlm_in {x : Tlm} (h : sm_Tlm x) : 0 ≤ cnt_Tlm x ∧ cnt_Tlm x ≤ 13194142679040 := by unfold cnt_Tlm; have h0 := cnt_Atm_in h.1; have h1 := cnt_ints_in h.2.1; have h2 := cnt_jobs_in h.2.2.1; have h3 := cnt_jobs_in h.2.2.2.1; have h4 := cnt_jobs_in h.2.2.2.2; omega

set_option maxRecDepth 100000 in
set_option maxHeartbeats 3200000 in
theorem mark_Tlm (x : Tlm) (v0 v1 v2 v3 v4 v5 : Value) (fp0 fp1 fp2 fp3 fp4 fp5 : List Nat) (k : Int) (h0 : 0 ≤ k) (h1 : k ≤ 2251799813685248) (hs : sm_Tlm x) (w : World) (g0 : SlR 1 intR w x.atm.mem v0 fp0) (g1 : SlR 1 intR w x.atm.holds v1 fp1) (g2 : SlR 1 intR w x.asked v2 fp2) (g3 : SlR 5 jobR w x.wait v3 fp3) (g4 : SlR 5 jobR w x.done v4 fp4) (g5 : SlR 5 jobR w x.told v5 fp5) (f : Free (fp0 ++ fp1 ++ fp2 ++ fp3 ++ fp4 ++ fp5) w) (hd : (fp0 ++ fp1 ++ fp2 ++ fp3 ++ fp4 ++ fp5).Nodup) :
    Calls Try.prog 39 #[.agg #[v0, v1, v2, v3, v4, v5], .int .i64 k] w fun e w' => e = .returned (.int .i64 (k + cnt_Tlm x)) ∧ SlR 1 intR w' (mk_Tlm k x).atm.mem v0 fp0 ∧ SlR 1 intR w' (mk_Tlm k x).atm.holds v1 fp1 ∧ SlR 1 intR w' (mk_Tlm k x).asked v2 fp2 ∧ SlR 5 jobR w' (mk_Tlm k x).wait v3 fp3 ∧ SlR 5 jobR w' (mk_Tlm k x).done v4 fp4 ∧ SlR 5 jobR w' (mk_Tlm k x).told v5 fp5 ∧ Chg (fp0 ++ fp1 ++ fp2 ++ fp3 ++ fp4 ++ fp5) w w' ∧ Free (fp0 ++ fp1 ++ fp2 ++ fp3 ++ fp4 ++ fp5) w' := by
  have HS := Lib.hid hs
  have hc0 := cnt_Atm_in (hs.1)
  obtain ⟨c0, hcc0⟩ : ∃ c, c = cnt_Atm x.atm := ⟨_, rfl⟩
  rw [← hcc0] at hc0
  have lc0 := hc0.1
  have uc0 := hc0.2
  have HC0 := Lib.hid hcc0
  clear hc0 hcc0
  have hc1 := cnt_ints_in (hs.2.1)
  obtain ⟨c1, hcc1⟩ : ∃ c, c = cnt_ints x.asked := ⟨_, rfl⟩
  rw [← hcc1] at hc1
  have lc1 := hc1.1
  have uc1 := hc1.2
  have HC1 := Lib.hid hcc1
  clear hc1 hcc1
  have hc2 := cnt_jobs_in (hs.2.2.1)
  obtain ⟨c2, hcc2⟩ : ∃ c, c = cnt_jobs x.wait := ⟨_, rfl⟩
  rw [← hcc2] at hc2
  have lc2 := hc2.1
  have uc2 := hc2.2
  have HC2 := Lib.hid hcc2
  clear hc2 hcc2
  have hc3 := cnt_jobs_in (hs.2.2.2.1)
  obtain ⟨c3, hcc3⟩ : ∃ c, c = cnt_jobs x.done := ⟨_, rfl⟩
  rw [← hcc3] at hc3
  have lc3 := hc3.1
  have uc3 := hc3.2
  have HC3 := Lib.hid hcc3
  clear hc3 hcc3
  have hc4 := cnt_jobs_in (hs.2.2.2.2)
  obtain ⟨c4, hcc4⟩ : ∃ c, c = cnt_jobs x.told := ⟨_, rfl⟩
  rw [← hcc4] at hc4
  have lc4 := hc4.1
  have uc4 := hc4.2
  have HC4 := Lib.hid hcc4
  clear hc4 hcc4
  have D0_1 : Hid (∀ b, b ∈ fp0 ++ fp1 → b ∉ fp2) := Lib.hid (fun b hb hb' => nodup_disj (nodup_left (nodup_left (nodup_left hd))) b (by first | (simp [hb]; done) | (simp only [List.mem_append] at hb ⊢; rcases hb with hb | hb <;> simp [hb])) hb')
  have D0_2 : Hid (∀ b, b ∈ fp0 ++ fp1 → b ∉ fp3) := Lib.hid (fun b hb hb' => nodup_disj (nodup_left (nodup_left hd)) b (by first | (simp [hb]; done) | (simp only [List.mem_append] at hb ⊢; rcases hb with hb | hb <;> simp [hb])) hb')
  have D1_2 : Hid (∀ b, b ∈ fp2 → b ∉ fp3) := Lib.hid (fun b hb hb' => nodup_disj (nodup_left (nodup_left hd)) b (by first | (simp [hb]; done) | (simp only [List.mem_append] at hb ⊢; rcases hb with hb | hb <;> simp [hb])) hb')
  have D0_3 : Hid (∀ b, b ∈ fp0 ++ fp1 → b ∉ fp4) := Lib.hid (fun b hb hb' => nodup_disj (nodup_left hd) b (by first | (simp [hb]; done) | (simp only [List.mem_append] at hb ⊢; rcases hb with hb | hb <;> simp [hb])) hb')
  have D1_3 : Hid (∀ b, b ∈ fp2 → b ∉ fp4) := Lib.hid (fun b hb hb' => nodup_disj (nodup_left hd) b (by first | (simp [hb]; done) | (simp only [List.mem_append] at hb ⊢; rcases hb with hb | hb <;> simp [hb])) hb')
  have D2_3 : Hid (∀ b, b ∈ fp3 → b ∉ fp4) := Lib.hid (fun b hb hb' => nodup_disj (nodup_left hd) b (by first | (simp [hb]; done) | (simp only [List.mem_append] at hb ⊢; rcases hb with hb | hb <;> simp [hb])) hb')
  have D0_4 : Hid (∀ b, b ∈ fp0 ++ fp1 → b ∉ fp5) := Lib.hid (fun b hb hb' => nodup_disj hd b (by first | (simp [hb]; done) | (simp only [List.mem_append] at hb ⊢; rcases hb with hb | hb <;> simp [hb])) hb')
  have D1_4 : Hid (∀ b, b ∈ fp2 → b ∉ fp5) := Lib.hid (fun b hb hb' => nodup_disj hd b (by first | (simp [hb]; done) | (simp only [List.mem_append] at hb ⊢; rcases hb with hb | hb <;> simp [hb])) hb')
  have D2_4 : Hid (∀ b, b ∈ fp3 → b ∉ fp5) := Lib.hid (fun b hb hb' => nodup_disj hd b (by first | (simp [hb]; done) | (simp only [List.mem_append] at hb ⊢; rcases hb with hb | hb <;> simp [hb])) hb')
  have D3_4 : Hid (∀ b, b ∈ fp4 → b ∉ fp5) := Lib.hid (fun b hb hb' => nodup_disj hd b (by first | (simp [hb]; done) | (simp only [List.mem_append] at hb ⊢; rcases hb with hb | hb <;> simp [hb])) hb')
  have L0 : Hid (∀ b, b ∈ fp0 ++ fp1 → b < w.heap.size) := Lib.hid (all_app (T := fun b => b < w.heap.size) (g0.lt intR_fits) (g1.lt intR_fits))
  have L1 : Hid (∀ b, b ∈ fp2 → b < w.heap.size) := Lib.hid (g2.lt intR_fits)
  have L2 : Hid (∀ b, b ∈ fp3 → b < w.heap.size) := Lib.hid (g3.lt jobR_fits)
  have L3 : Hid (∀ b, b ∈ fp4 → b < w.heap.size) := Lib.hid (g4.lt jobR_fits)
  have L4 : Hid (∀ b, b ∈ fp5 → b < w.heap.size) := Lib.hid (g5.lt jobR_fits)
  have hb := below_alloc w (.cells #[v0, v1, v2, v3, v4, v5] 57)
  have G0 := Lib.hid (SlR.below intR_fits g0 hb)
  have G1 := Lib.hid (SlR.below intR_fits g1 hb)
  have G2 := Lib.hid (SlR.below intR_fits g2 hb)
  have G3 := Lib.hid (SlR.below jobR_fits g3 hb)
  have G4 := Lib.hid (SlR.below jobR_fits g4 hb)
  have G5 := Lib.hid (SlR.below jobR_fits g5 hb)
  have F0 := Lib.hid (Free.below (fp := fp0 ++ fp1) (fun b hb => f b (by first | (simp [hb]; done) | (simp only [List.mem_append] at hb ⊢; rcases hb with hb | hb <;> simp [hb]))) L0.out hb)
  have F1 := Lib.hid (Free.below (fp := fp2) (fun b hb => f b (by first | (simp [hb]; done) | (simp only [List.mem_append] at hb ⊢; rcases hb with hb | hb <;> simp [hb]))) L1.out hb)
  have F2 := Lib.hid (Free.below (fp := fp3) (fun b hb => f b (by first | (simp [hb]; done) | (simp only [List.mem_append] at hb ⊢; rcases hb with hb | hb <;> simp [hb]))) L2.out hb)
  have F3 := Lib.hid (Free.below (fp := fp4) (fun b hb => f b (by first | (simp [hb]; done) | (simp only [List.mem_append] at hb ⊢; rcases hb with hb | hb <;> simp [hb]))) L3.out hb)
  have F4 := Lib.hid (Free.below (fp := fp5) (fun b hb => f b (by first | (simp [hb]; done) | (simp only [List.mem_append] at hb ⊢; rcases hb with hb | hb <;> simp [hb]))) L4.out hb)
  have M0 : Hid (∀ b, b ∈ fp0 ++ fp1 → b < (w.alloc (.cells #[v0, v1, v2, v3, v4, v5] 57)).heap.size) := Lib.hid (fun b hb => by have := L0.out b hb; simp; omega)
  have M1 : Hid (∀ b, b ∈ fp2 → b < (w.alloc (.cells #[v0, v1, v2, v3, v4, v5] 57)).heap.size) := Lib.hid (fun b hb => by have := L1.out b hb; simp; omega)
  have M2 : Hid (∀ b, b ∈ fp3 → b < (w.alloc (.cells #[v0, v1, v2, v3, v4, v5] 57)).heap.size) := Lib.hid (fun b hb => by have := L2.out b hb; simp; omega)
  have M3 : Hid (∀ b, b ∈ fp4 → b < (w.alloc (.cells #[v0, v1, v2, v3, v4, v5] 57)).heap.size) := Lib.hid (fun b hb => by have := L3.out b hb; simp; omega)
  have M4 : Hid (∀ b, b ∈ fp5 → b < (w.alloc (.cells #[v0, v1, v2, v3, v4, v5] 57)).heap.size) := Lib.hid (fun b hb => by have := L4.out b hb; simp; omega)
  have N0 : Hid (∀ b, b ∈ fp0 ++ fp1 → w.heap.size ≠ b) := Lib.hid (fun b hb => by have := L0.out b hb; omega)
  have N1 : Hid (∀ b, b ∈ fp2 → w.heap.size ≠ b) := Lib.hid (fun b hb => by have := L1.out b hb; omega)
  have N2 : Hid (∀ b, b ∈ fp3 → w.heap.size ≠ b) := Lib.hid (fun b hb => by have := L2.out b hb; omega)
  have N3 : Hid (∀ b, b ∈ fp4 → w.heap.size ≠ b) := Lib.hid (fun b hb => by have := L3.out b hb; omega)
  have N4 : Hid (∀ b, b ∈ fp5 → w.heap.size ≠ b) := Lib.hid (fun b hb => by have := L4.out b hb; omega)
  have K := Lib.hid (hb.chg (fp0 ++ fp1 ++ fp2 ++ fp3 ++ fp4 ++ fp5))
  have OD0 : Hid ((fp0 ++ fp1).Nodup) := Lib.hid (nodup_left (nodup_left (nodup_left (nodup_left hd))))
  have OD2 : Hid ((fp3).Nodup) := Lib.hid (nodup_right (by simpa [List.append_assoc] using (nodup_left (nodup_left hd)) : ((fp0 ++ fp1 ++ fp2) ++ (fp3)).Nodup))
  have OD3 : Hid ((fp4).Nodup) := Lib.hid (nodup_right (by simpa [List.append_assoc] using (nodup_left hd) : ((fp0 ++ fp1 ++ fp2 ++ fp3) ++ (fp4)).Nodup))
  have OD4 : Hid ((fp5).Nodup) := Lib.hid (nodup_right (by simpa [List.append_assoc] using hd : ((fp0 ++ fp1 ++ fp2 ++ fp3 ++ fp4) ++ (fp5)).Nodup))
  clear hb f hs hd g0 g1 g2 g3 g4 g5
  go_enter Try.func39, Try.ntmps39
  go_wp2_with fail
  refine (mark_Atm x.atm _ _ fp0 fp1 k (by omega) (by omega) (HS.out.1) _ G0.out G1.out F0.out OD0.out).mono ?_
  rw [← HC0.out]
  rintro e w1 ⟨rfl, m0, m1, c, fr⟩
  have X2 := keep_cell_chg c (alloc1_new w _ _ 2 rfl) (fun h => N0.out _ h rfl)
  have X3 := keep_cell_chg c (alloc1_new w _ _ 3 rfl) (fun h => N0.out _ h rfl)
  have X4 := keep_cell_chg c (alloc1_new w _ _ 4 rfl) (fun h => N0.out _ h rfl)
  have X5 := keep_cell_chg c (alloc1_new w _ _ 5 rfl) (fun h => N0.out _ h rfl)
  replace G2 := Lib.hid (SlR.chg intR_fits G2.out c (fun b hb hb' => D0_1.out b hb' hb))
  replace F1 := Lib.hid (Free.chg F1.out M1.out c (fun b hb hb' => D0_1.out b hb' hb))
  replace G3 := Lib.hid (SlR.chg jobR_fits G3.out c (fun b hb hb' => D0_2.out b hb' hb))
  replace F2 := Lib.hid (Free.chg F2.out M2.out c (fun b hb hb' => D0_2.out b hb' hb))
  replace G4 := Lib.hid (SlR.chg jobR_fits G4.out c (fun b hb hb' => D0_3.out b hb' hb))
  replace F3 := Lib.hid (Free.chg F3.out M3.out c (fun b hb hb' => D0_3.out b hb' hb))
  replace G5 := Lib.hid (SlR.chg jobR_fits G5.out c (fun b hb hb' => D0_4.out b hb' hb))
  replace F4 := Lib.hid (Free.chg F4.out M4.out c (fun b hb hb' => D0_4.out b hb' hb))
  replace G0 := Lib.hid m0
  replace G1 := Lib.hid m1
  replace F0 := Lib.hid fr
  replace K := Lib.hid (K.out.trans' (c.mono (fun b hb => by first | (simp [hb]; done) | (simp only [List.mem_append] at hb ⊢; rcases hb with hb | hb <;> simp [hb]))))
  replace M0 := Lib.hid (fun b hb => Nat.lt_of_lt_of_le (M0.out b hb) c.size)
  replace M1 := Lib.hid (fun b hb => Nat.lt_of_lt_of_le (M1.out b hb) c.size)
  replace M2 := Lib.hid (fun b hb => Nat.lt_of_lt_of_le (M2.out b hb) c.size)
  replace M3 := Lib.hid (fun b hb => Nat.lt_of_lt_of_le (M3.out b hb) c.size)
  replace M4 := Lib.hid (fun b hb => Nat.lt_of_lt_of_le (M4.out b hb) c.size)
  clear c fr m0 m1
  go_wp2_with fail
  refine (mark_ints _ x.asked fp2 (k + c0) (by omega) (by omega) (HS.out.2.1) _ G2.out F1.out).mono ?_
  rw [← HC1.out]
  rintro e w2 ⟨rfl, m2, c, fr⟩
  replace X3 := keep_cell_chg c X3 (fun h => N1.out _ h rfl)
  replace X4 := keep_cell_chg c X4 (fun h => N1.out _ h rfl)
  replace X5 := keep_cell_chg c X5 (fun h => N1.out _ h rfl)
  replace G0 := Lib.hid (SlR.chg intR_fits G0.out c (fun b hb => D0_1.out b (by first | (simp [hb]; done) | (simp only [List.mem_append] at hb ⊢; rcases hb with hb | hb <;> simp [hb]))))
  replace G1 := Lib.hid (SlR.chg intR_fits G1.out c (fun b hb => D0_1.out b (by first | (simp [hb]; done) | (simp only [List.mem_append] at hb ⊢; rcases hb with hb | hb <;> simp [hb]))))
  replace F0 := Lib.hid (Free.chg F0.out M0.out c D0_1.out)
  replace G3 := Lib.hid (SlR.chg jobR_fits G3.out c (fun b hb hb' => D1_2.out b hb' hb))
  replace F2 := Lib.hid (Free.chg F2.out M2.out c (fun b hb hb' => D1_2.out b hb' hb))
  replace G4 := Lib.hid (SlR.chg jobR_fits G4.out c (fun b hb hb' => D1_3.out b hb' hb))
  replace F3 := Lib.hid (Free.chg F3.out M3.out c (fun b hb hb' => D1_3.out b hb' hb))
  replace G5 := Lib.hid (SlR.chg jobR_fits G5.out c (fun b hb hb' => D1_4.out b hb' hb))
  replace F4 := Lib.hid (Free.chg F4.out M4.out c (fun b hb hb' => D1_4.out b hb' hb))
  replace G2 := Lib.hid m2
  replace F1 := Lib.hid fr
  replace K := Lib.hid (K.out.trans' (c.mono (fun b hb => by first | (simp [hb]; done) | (simp only [List.mem_append] at hb ⊢; rcases hb with hb | hb <;> simp [hb]))))
  replace M0 := Lib.hid (fun b hb => Nat.lt_of_lt_of_le (M0.out b hb) c.size)
  replace M1 := Lib.hid (fun b hb => Nat.lt_of_lt_of_le (M1.out b hb) c.size)
  replace M2 := Lib.hid (fun b hb => Nat.lt_of_lt_of_le (M2.out b hb) c.size)
  replace M3 := Lib.hid (fun b hb => Nat.lt_of_lt_of_le (M3.out b hb) c.size)
  replace M4 := Lib.hid (fun b hb => Nat.lt_of_lt_of_le (M4.out b hb) c.size)
  clear c fr m2
  go_wp2_with fail
  refine (mark_jobs _ x.wait fp3 ((k + c0) + c1) (by omega) (by omega) (HS.out.2.2.1) _ G3.out F2.out OD2.out).mono ?_
  rw [← HC2.out]
  rintro e w3 ⟨rfl, m3, c, fr⟩
  replace X4 := keep_cell_chg c X4 (fun h => N2.out _ h rfl)
  replace X5 := keep_cell_chg c X5 (fun h => N2.out _ h rfl)
  replace G0 := Lib.hid (SlR.chg intR_fits G0.out c (fun b hb => D0_2.out b (by first | (simp [hb]; done) | (simp only [List.mem_append] at hb ⊢; rcases hb with hb | hb <;> simp [hb]))))
  replace G1 := Lib.hid (SlR.chg intR_fits G1.out c (fun b hb => D0_2.out b (by first | (simp [hb]; done) | (simp only [List.mem_append] at hb ⊢; rcases hb with hb | hb <;> simp [hb]))))
  replace F0 := Lib.hid (Free.chg F0.out M0.out c D0_2.out)
  replace G2 := Lib.hid (SlR.chg intR_fits G2.out c D1_2.out)
  replace F1 := Lib.hid (Free.chg F1.out M1.out c D1_2.out)
  replace G4 := Lib.hid (SlR.chg jobR_fits G4.out c (fun b hb hb' => D2_3.out b hb' hb))
  replace F3 := Lib.hid (Free.chg F3.out M3.out c (fun b hb hb' => D2_3.out b hb' hb))
  replace G5 := Lib.hid (SlR.chg jobR_fits G5.out c (fun b hb hb' => D2_4.out b hb' hb))
  replace F4 := Lib.hid (Free.chg F4.out M4.out c (fun b hb hb' => D2_4.out b hb' hb))
  replace G3 := Lib.hid m3
  replace F2 := Lib.hid fr
  replace K := Lib.hid (K.out.trans' (c.mono (fun b hb => by first | (simp [hb]; done) | (simp only [List.mem_append] at hb ⊢; rcases hb with hb | hb <;> simp [hb]))))
  replace M0 := Lib.hid (fun b hb => Nat.lt_of_lt_of_le (M0.out b hb) c.size)
  replace M1 := Lib.hid (fun b hb => Nat.lt_of_lt_of_le (M1.out b hb) c.size)
  replace M2 := Lib.hid (fun b hb => Nat.lt_of_lt_of_le (M2.out b hb) c.size)
  replace M3 := Lib.hid (fun b hb => Nat.lt_of_lt_of_le (M3.out b hb) c.size)
  replace M4 := Lib.hid (fun b hb => Nat.lt_of_lt_of_le (M4.out b hb) c.size)
  clear c fr m3
  go_wp2_with fail
  refine (mark_jobs _ x.done fp4 (((k + c0) + c1) + c2) (by omega) (by omega) (HS.out.2.2.2.1) _ G4.out F3.out OD3.out).mono ?_
  rw [← HC3.out]
  rintro e w4 ⟨rfl, m4, c, fr⟩
  replace X5 := keep_cell_chg c X5 (fun h => N3.out _ h rfl)
  replace G0 := Lib.hid (SlR.chg intR_fits G0.out c (fun b hb => D0_3.out b (by first | (simp [hb]; done) | (simp only [List.mem_append] at hb ⊢; rcases hb with hb | hb <;> simp [hb]))))
  replace G1 := Lib.hid (SlR.chg intR_fits G1.out c (fun b hb => D0_3.out b (by first | (simp [hb]; done) | (simp only [List.mem_append] at hb ⊢; rcases hb with hb | hb <;> simp [hb]))))
  replace F0 := Lib.hid (Free.chg F0.out M0.out c D0_3.out)
  replace G2 := Lib.hid (SlR.chg intR_fits G2.out c D1_3.out)
  replace F1 := Lib.hid (Free.chg F1.out M1.out c D1_3.out)
  replace G3 := Lib.hid (SlR.chg jobR_fits G3.out c D2_3.out)
  replace F2 := Lib.hid (Free.chg F2.out M2.out c D2_3.out)
  replace G5 := Lib.hid (SlR.chg jobR_fits G5.out c (fun b hb hb' => D3_4.out b hb' hb))
  replace F4 := Lib.hid (Free.chg F4.out M4.out c (fun b hb hb' => D3_4.out b hb' hb))
  replace G4 := Lib.hid m4
  replace F3 := Lib.hid fr
  replace K := Lib.hid (K.out.trans' (c.mono (fun b hb => by first | (simp [hb]; done) | (simp only [List.mem_append] at hb ⊢; rcases hb with hb | hb <;> simp [hb]))))
  replace M0 := Lib.hid (fun b hb => Nat.lt_of_lt_of_le (M0.out b hb) c.size)
  replace M1 := Lib.hid (fun b hb => Nat.lt_of_lt_of_le (M1.out b hb) c.size)
  replace M2 := Lib.hid (fun b hb => Nat.lt_of_lt_of_le (M2.out b hb) c.size)
  replace M3 := Lib.hid (fun b hb => Nat.lt_of_lt_of_le (M3.out b hb) c.size)
  replace M4 := Lib.hid (fun b hb => Nat.lt_of_lt_of_le (M4.out b hb) c.size)
  clear c fr m4
  go_wp2_with fail
  refine (mark_jobs _ x.told fp5 ((((k + c0) + c1) + c2) + c3) (by omega) (by omega) (HS.out.2.2.2.2) _ G5.out F4.out OD4.out).mono ?_
  rw [← HC4.out]
  rintro e w5 ⟨rfl, m5, c, fr⟩
  replace G0 := Lib.hid (SlR.chg intR_fits G0.out c (fun b hb => D0_4.out b (by first | (simp [hb]; done) | (simp only [List.mem_append] at hb ⊢; rcases hb with hb | hb <;> simp [hb]))))
  replace G1 := Lib.hid (SlR.chg intR_fits G1.out c (fun b hb => D0_4.out b (by first | (simp [hb]; done) | (simp only [List.mem_append] at hb ⊢; rcases hb with hb | hb <;> simp [hb]))))
  replace F0 := Lib.hid (Free.chg F0.out M0.out c D0_4.out)
  replace G2 := Lib.hid (SlR.chg intR_fits G2.out c D1_4.out)
  replace F1 := Lib.hid (Free.chg F1.out M1.out c D1_4.out)
  replace G3 := Lib.hid (SlR.chg jobR_fits G3.out c D2_4.out)
  replace F2 := Lib.hid (Free.chg F2.out M2.out c D2_4.out)
  replace G4 := Lib.hid (SlR.chg jobR_fits G4.out c D3_4.out)
  replace F3 := Lib.hid (Free.chg F3.out M3.out c D3_4.out)
  replace G5 := Lib.hid m5
  replace F4 := Lib.hid fr
  replace K := Lib.hid (K.out.trans' (c.mono (fun b hb => by first | (simp [hb]; done) | (simp only [List.mem_append] at hb ⊢; rcases hb with hb | hb <;> simp [hb]))))
  replace M0 := Lib.hid (fun b hb => Nat.lt_of_lt_of_le (M0.out b hb) c.size)
  replace M1 := Lib.hid (fun b hb => Nat.lt_of_lt_of_le (M1.out b hb) c.size)
  replace M2 := Lib.hid (fun b hb => Nat.lt_of_lt_of_le (M2.out b hb) c.size)
  replace M3 := Lib.hid (fun b hb => Nat.lt_of_lt_of_le (M3.out b hb) c.size)
  replace M4 := Lib.hid (fun b hb => Nat.lt_of_lt_of_le (M4.out b hb) c.size)
  clear c fr m5
  go_wp2
  go_ret
  exact ⟨ret_int (by unfold cnt_Tlm; rw [← HC0.out, ← HC1.out, ← HC2.out, ← HC3.out, ← HC4.out]; omega), G0.out, G1.out, (by have h := G2.out; rw [HC0.out] at h; exact h), (by have h := G3.out; rw [HC0.out] at h; rw [HC1.out] at h; exact h), (by have h := G4.out; rw [HC0.out] at h; rw [HC1.out] at h; rw [HC2.out] at h; exact h), (by have h := G5.out; rw [HC0.out] at h; rw [HC1.out] at h; rw [HC2.out] at h; rw [HC3.out] at h; exact h), K.out, (by have h := (Free.app (Free.app (Free.app (Free.app F0.out F1.out) F2.out) F3.out) F4.out); simpa [List.append_assoc] using h)⟩

set_option maxRecDepth 100000 in
set_option maxHeartbeats 3200000 in
theorem held_Tlm (x : Tlm) (v0 v1 v2 v3 v4 v5 : Value) (fp0 fp1 fp2 fp3 fp4 fp5 : List Nat) (k : Int) (h0 : 0 ≤ k) (h1 : k ≤ 2251799813685248) (hs : sm_Tlm x) (w : World) (g0 : SlR 1 intR w (mk_Tlm k x).atm.mem v0 fp0) (g1 : SlR 1 intR w (mk_Tlm k x).atm.holds v1 fp1) (g2 : SlR 1 intR w (mk_Tlm k x).asked v2 fp2) (g3 : SlR 5 jobR w (mk_Tlm k x).wait v3 fp3) (g4 : SlR 5 jobR w (mk_Tlm k x).done v4 fp4) (g5 : SlR 5 jobR w (mk_Tlm k x).told v5 fp5) :
    Calls Try.prog 40 #[.agg #[v0, v1, v2, v3, v4, v5], .int .i64 k] w fun e w' => e = .returned (.int .i64 (k + cnt_Tlm x)) ∧ Below w.heap.size w w' := by
  have HS := Lib.hid hs
  have hc0 := cnt_Atm_in (hs.1)
  obtain ⟨c0, hcc0⟩ : ∃ c, c = cnt_Atm x.atm := ⟨_, rfl⟩
  rw [← hcc0] at hc0
  have lc0 := hc0.1
  have uc0 := hc0.2
  have HC0 := Lib.hid hcc0
  clear hc0 hcc0
  have hc1 := cnt_ints_in (hs.2.1)
  obtain ⟨c1, hcc1⟩ : ∃ c, c = cnt_ints x.asked := ⟨_, rfl⟩
  rw [← hcc1] at hc1
  have lc1 := hc1.1
  have uc1 := hc1.2
  have HC1 := Lib.hid hcc1
  clear hc1 hcc1
  have hc2 := cnt_jobs_in (hs.2.2.1)
  obtain ⟨c2, hcc2⟩ : ∃ c, c = cnt_jobs x.wait := ⟨_, rfl⟩
  rw [← hcc2] at hc2
  have lc2 := hc2.1
  have uc2 := hc2.2
  have HC2 := Lib.hid hcc2
  clear hc2 hcc2
  have hc3 := cnt_jobs_in (hs.2.2.2.1)
  obtain ⟨c3, hcc3⟩ : ∃ c, c = cnt_jobs x.done := ⟨_, rfl⟩
  rw [← hcc3] at hc3
  have lc3 := hc3.1
  have uc3 := hc3.2
  have HC3 := Lib.hid hcc3
  clear hc3 hcc3
  have hc4 := cnt_jobs_in (hs.2.2.2.2)
  obtain ⟨c4, hcc4⟩ : ∃ c, c = cnt_jobs x.told := ⟨_, rfl⟩
  rw [← hcc4] at hc4
  have lc4 := hc4.1
  have uc4 := hc4.2
  have HC4 := Lib.hid hcc4
  clear hc4 hcc4
  have hb := below_alloc w (.cells #[v0, v1, v2, v3, v4, v5] 57)
  have G0 : Hid (SlR 1 intR (w.alloc (.cells #[v0, v1, v2, v3, v4, v5] 57)) (mk_Atm (k) x.atm).mem v0 fp0) := Lib.hid (by have h := SlR.below intR_fits g0 hb; exact h)
  have G1 : Hid (SlR 1 intR (w.alloc (.cells #[v0, v1, v2, v3, v4, v5] 57)) (mk_Atm (k) x.atm).holds v1 fp1) := Lib.hid (by have h := SlR.below intR_fits g1 hb; exact h)
  have G2 : Hid (SlR 1 intR (w.alloc (.cells #[v0, v1, v2, v3, v4, v5] 57)) (mk_ints (k + c0) x.asked) v2 fp2) := Lib.hid (by have h := SlR.below intR_fits g2 hb; rw [HC0.out]; exact h)
  have G3 : Hid (SlR 5 jobR (w.alloc (.cells #[v0, v1, v2, v3, v4, v5] 57)) (mk_jobs (k + c0 + c1) x.wait) v3 fp3) := Lib.hid (by have h := SlR.below jobR_fits g3 hb; rw [HC0.out]; rw [HC1.out]; exact h)
  have G4 : Hid (SlR 5 jobR (w.alloc (.cells #[v0, v1, v2, v3, v4, v5] 57)) (mk_jobs (k + c0 + c1 + c2) x.done) v4 fp4) := Lib.hid (by have h := SlR.below jobR_fits g4 hb; rw [HC0.out]; rw [HC1.out]; rw [HC2.out]; exact h)
  have G5 : Hid (SlR 5 jobR (w.alloc (.cells #[v0, v1, v2, v3, v4, v5] 57)) (mk_jobs (k + c0 + c1 + c2 + c3) x.told) v5 fp5) := Lib.hid (by have h := SlR.below jobR_fits g5 hb; rw [HC0.out]; rw [HC1.out]; rw [HC2.out]; rw [HC3.out]; exact h)
  have B := Lib.hid hb
  clear hb hs g0 g1 g2 g3 g4 g5
  go_enter Try.func40, Try.ntmps40
  go_wp2_with fail
  refine (held_Atm x.atm _ _ fp0 fp1 (k) (by omega) (by omega) (HS.out.1) _ G0.out G1.out).mono ?_
  rw [← HC0.out]
  rintro e w1 ⟨rfl, b⟩
  have X2 := keep_cell b (alloc1_new w _ _ 2 rfl)
  have X3 := keep_cell b (alloc1_new w _ _ 3 rfl)
  have X4 := keep_cell b (alloc1_new w _ _ 4 rfl)
  have X5 := keep_cell b (alloc1_new w _ _ 5 rfl)
  replace G2 := Lib.hid (SlR.below intR_fits G2.out b)
  replace G3 := Lib.hid (SlR.below jobR_fits G3.out b)
  replace G4 := Lib.hid (SlR.below jobR_fits G4.out b)
  replace G5 := Lib.hid (SlR.below jobR_fits G5.out b)
  replace B := Lib.hid (B.out.trans (b.mono B.out.size))
  clear b
  have p0 : 0 ≤ k + c0 := by omega
  have d0 : decide (k + c0 < 0) = false := decide_eq_false (by omega)
  go_wp2_with fail
  refine (held_ints _ x.asked fp2 (k + c0) (by omega) (by omega) (HS.out.2.1) _ G2.out).mono ?_
  rw [← HC1.out]
  rintro e w2 ⟨rfl, b⟩
  replace X3 := keep_cell b X3
  replace X4 := keep_cell b X4
  replace X5 := keep_cell b X5
  replace G3 := Lib.hid (SlR.below jobR_fits G3.out b)
  replace G4 := Lib.hid (SlR.below jobR_fits G4.out b)
  replace G5 := Lib.hid (SlR.below jobR_fits G5.out b)
  replace B := Lib.hid (B.out.trans (b.mono B.out.size))
  clear b
  have p1 : 0 ≤ k + c0 + c1 := by omega
  have d1 : decide (k + c0 + c1 < 0) = false := decide_eq_false (by omega)
  go_wp2_with fail
  refine (held_jobs _ x.wait fp3 (k + c0 + c1) (by omega) (by omega) (HS.out.2.2.1) _ G3.out).mono ?_
  rw [← HC2.out]
  rintro e w3 ⟨rfl, b⟩
  replace X4 := keep_cell b X4
  replace X5 := keep_cell b X5
  replace G4 := Lib.hid (SlR.below jobR_fits G4.out b)
  replace G5 := Lib.hid (SlR.below jobR_fits G5.out b)
  replace B := Lib.hid (B.out.trans (b.mono B.out.size))
  clear b
  have p2 : 0 ≤ k + c0 + c1 + c2 := by omega
  have d2 : decide (k + c0 + c1 + c2 < 0) = false := decide_eq_false (by omega)
  go_wp2_with fail
  refine (held_jobs _ x.done fp4 (k + c0 + c1 + c2) (by omega) (by omega) (HS.out.2.2.2.1) _ G4.out).mono ?_
  rw [← HC3.out]
  rintro e w4 ⟨rfl, b⟩
  replace X5 := keep_cell b X5
  replace G5 := Lib.hid (SlR.below jobR_fits G5.out b)
  replace B := Lib.hid (B.out.trans (b.mono B.out.size))
  clear b
  have p3 : 0 ≤ k + c0 + c1 + c2 + c3 := by omega
  have d3 : decide (k + c0 + c1 + c2 + c3 < 0) = false := decide_eq_false (by omega)
  go_wp2_with fail
  refine (held_jobs _ x.told fp5 (k + c0 + c1 + c2 + c3) (by omega) (by omega) (HS.out.2.2.2.2) _ G5.out).mono ?_
  rw [← HC4.out]
  rintro e w5 ⟨rfl, b⟩
  replace B := Lib.hid (B.out.trans (b.mono B.out.size))
  clear b
  have p4 : 0 ≤ k + c0 + c1 + c2 + c3 + c4 := by omega
  have d4 : decide (k + c0 + c1 + c2 + c3 + c4 < 0) = false := decide_eq_false (by omega)
  go_wp2
  go_ret
  exact ⟨ret_int (by unfold cnt_Tlm; rw [← HC0.out, ← HC1.out, ← HC2.out, ← HC3.out, ← HC4.out]; omega), B.out⟩


end Go.Proofs.Ytjapdkjfnmjicaa
