/-
  markAtmState, heldAtmState.
-/
import Derived.Test.YtjapdkjfnmjicaaProg
import Derived.Test.YtjapdkjfnmjicaaBase
import Derived.Test.YtjapdkjfnmjicaaAtm
import Derived.Test.YtjapdkjfnmjicaaRow
import Derived.WalkSmall
namespace Go.Proofs.Ytjapdkjfnmjicaa
set_option linter.unusedVariables false
set_option linter.unusedSimpArgs false
open Go.RowKit

theorem nodup_disj {p q : List Nat} (h : (p ++ q).Nodup) : ∀ b, b ∈ p → b ∉ q := fun b hb hb' => (List.nodup_append.1 h).2.2 b hb b hb' rfl

theorem nodup_left {p q : List Nat} (h : (p ++ q).Nodup) : p.Nodup := (List.nodup_append.1 h).1
theorem nodup_right {p q : List Nat} (h : (p ++ q).Nodup) : q.Nodup := (List.nodup_append.1 h).2.1

def mk_Atm (k : Int) (x : Atm) : Atm := ⟨mk_Mem (k) x.mem, mk_ints (k + cnt_Mem x.mem) x.holds⟩
def cnt_Atm (x : Atm) : Int := cnt_Mem x.mem + cnt_ints x.holds
theorem cnt_Atm_in {x : Atm} (h : sm_Atm x) : 0 ≤ cnt_Atm x ∧ cnt_Atm x ≤ 2097152 := by unfold cnt_Atm; have h0 := cnt_Mem_in h.1; have h1 := cnt_ints_in h.2; omega

set_option maxRecDepth 100000 in
set_option maxHeartbeats 3200000 in
theorem mark_Atm (x : Atm) (v0 v1 : Value) (fp0 fp1 : List Nat) (k : Int) (h0 : 0 ≤ k) (h1 : k ≤ 4503599627370496) (hs : sm_Atm x) (w : World) (g0 : SlR 1 intR w x.mem v0 fp0) (g1 : SlR 1 intR w x.holds v1 fp1) (f : Free (fp0 ++ fp1) w) (hd : (fp0 ++ fp1).Nodup) :
    Calls Try.prog 22 #[.agg #[v0, v1], .int .i64 k] w fun e w' => e = .returned (.int .i64 (k + cnt_Atm x)) ∧ SlR 1 intR w' (mk_Atm k x).mem v0 fp0 ∧ SlR 1 intR w' (mk_Atm k x).holds v1 fp1 ∧ Chg (fp0 ++ fp1) w w' ∧ Free (fp0 ++ fp1) w' := by
  have HS := Lib.hid hs
  have hc0 := cnt_Mem_in (hs.1)
  obtain ⟨c0, hcc0⟩ : ∃ c, c = cnt_Mem x.mem := ⟨_, rfl⟩
  rw [← hcc0] at hc0
  have lc0 := hc0.1
  have uc0 := hc0.2
  have HC0 := Lib.hid hcc0
  clear hc0 hcc0
  have hc1 := cnt_ints_in (hs.2)
  obtain ⟨c1, hcc1⟩ : ∃ c, c = cnt_ints x.holds := ⟨_, rfl⟩
  rw [← hcc1] at hc1
  have lc1 := hc1.1
  have uc1 := hc1.2
  have HC1 := Lib.hid hcc1
  clear hc1 hcc1
  have D0_1 : Hid (∀ b, b ∈ fp0 → b ∉ fp1) := Lib.hid (fun b hb hb' => nodup_disj hd b (by first | (simp [hb]; done) | (simp only [List.mem_append] at hb ⊢; rcases hb with hb | hb <;> simp [hb])) hb')
  have L0 : Hid (∀ b, b ∈ fp0 → b < w.heap.size) := Lib.hid (g0.lt intR_fits)
  have L1 : Hid (∀ b, b ∈ fp1 → b < w.heap.size) := Lib.hid (g1.lt intR_fits)
  have hb := below_alloc w (.cells #[v0, v1] 31)
  have G0 := Lib.hid (SlR.below intR_fits g0 hb)
  have G1 := Lib.hid (SlR.below intR_fits g1 hb)
  have F0 := Lib.hid (Free.below (fp := fp0) (fun b hb => f b (by first | (simp [hb]; done) | (simp only [List.mem_append] at hb ⊢; rcases hb with hb | hb <;> simp [hb]))) L0.out hb)
  have F1 := Lib.hid (Free.below (fp := fp1) (fun b hb => f b (by first | (simp [hb]; done) | (simp only [List.mem_append] at hb ⊢; rcases hb with hb | hb <;> simp [hb]))) L1.out hb)
  have M0 : Hid (∀ b, b ∈ fp0 → b < (w.alloc (.cells #[v0, v1] 31)).heap.size) := Lib.hid (fun b hb => by have := L0.out b hb; simp; omega)
  have M1 : Hid (∀ b, b ∈ fp1 → b < (w.alloc (.cells #[v0, v1] 31)).heap.size) := Lib.hid (fun b hb => by have := L1.out b hb; simp; omega)
  have N0 : Hid (∀ b, b ∈ fp0 → w.heap.size ≠ b) := Lib.hid (fun b hb => by have := L0.out b hb; omega)
  have N1 : Hid (∀ b, b ∈ fp1 → w.heap.size ≠ b) := Lib.hid (fun b hb => by have := L1.out b hb; omega)
  have K := Lib.hid (hb.chg (fp0 ++ fp1))
  clear hb f hs hd g0 g1
  go_enter Try.func22, Try.ntmps22
  go_wp2_with fail
  refine (mark_Mem x.mem _ fp0 k (by omega) (by omega) (HS.out.1) _ G0.out F0.out).mono ?_
  rw [← HC0.out]
  rintro e w1 ⟨rfl, m0, c, fr⟩
  have X1 := keep_cell_chg c (alloc1_new w _ _ 1 rfl) (fun h => N0.out _ h rfl)
  replace G1 := Lib.hid (SlR.chg intR_fits G1.out c (fun b hb hb' => D0_1.out b hb' hb))
  replace F1 := Lib.hid (Free.chg F1.out M1.out c (fun b hb hb' => D0_1.out b hb' hb))
  replace G0 := Lib.hid m0
  replace F0 := Lib.hid fr
  replace K := Lib.hid (K.out.trans' (c.mono (fun b hb => by first | (simp [hb]; done) | (simp only [List.mem_append] at hb ⊢; rcases hb with hb | hb <;> simp [hb]))))
  replace M0 := Lib.hid (fun b hb => Nat.lt_of_lt_of_le (M0.out b hb) c.size)
  replace M1 := Lib.hid (fun b hb => Nat.lt_of_lt_of_le (M1.out b hb) c.size)
  clear c fr m0
  go_wp2_with fail
  refine (mark_ints _ x.holds fp1 (k + c0) (by omega) (by omega) (HS.out.2) _ G1.out F1.out).mono ?_
  rw [← HC1.out]
  rintro e w2 ⟨rfl, m1, c, fr⟩
  replace G0 := Lib.hid (SlR.chg intR_fits G0.out c D0_1.out)
  replace F0 := Lib.hid (Free.chg F0.out M0.out c D0_1.out)
  replace G1 := Lib.hid m1
  replace F1 := Lib.hid fr
  replace K := Lib.hid (K.out.trans' (c.mono (fun b hb => by first | (simp [hb]; done) | (simp only [List.mem_append] at hb ⊢; rcases hb with hb | hb <;> simp [hb]))))
  replace M0 := Lib.hid (fun b hb => Nat.lt_of_lt_of_le (M0.out b hb) c.size)
  replace M1 := Lib.hid (fun b hb => Nat.lt_of_lt_of_le (M1.out b hb) c.size)
  clear c fr m1
  go_wp2
  go_ret
  exact ⟨ret_int (by unfold cnt_Atm; rw [← HC0.out, ← HC1.out]; omega), G0.out, (by have h := G1.out; rw [HC0.out] at h; exact h), K.out, (by have h := (Free.app F0.out F1.out); simpa [List.append_assoc] using h)⟩

set_option maxRecDepth 100000 in
set_option maxHeartbeats 3200000 in
theorem held_Atm (x : Atm) (v0 v1 : Value) (fp0 fp1 : List Nat) (k : Int) (h0 : 0 ≤ k) (h1 : k ≤ 4503599627370496) (hs : sm_Atm x) (w : World) (g0 : SlR 1 intR w (mk_Atm k x).mem v0 fp0) (g1 : SlR 1 intR w (mk_Atm k x).holds v1 fp1) :
    Calls Try.prog 23 #[.agg #[v0, v1], .int .i64 k] w fun e w' => e = .returned (.int .i64 (k + cnt_Atm x)) ∧ Below w.heap.size w w' := by
  have HS := Lib.hid hs
  have hc0 := cnt_Mem_in (hs.1)
  obtain ⟨c0, hcc0⟩ : ∃ c, c = cnt_Mem x.mem := ⟨_, rfl⟩
  rw [← hcc0] at hc0
  have lc0 := hc0.1
  have uc0 := hc0.2
  have HC0 := Lib.hid hcc0
  clear hc0 hcc0
  have hc1 := cnt_ints_in (hs.2)
  obtain ⟨c1, hcc1⟩ : ∃ c, c = cnt_ints x.holds := ⟨_, rfl⟩
  rw [← hcc1] at hc1
  have lc1 := hc1.1
  have uc1 := hc1.2
  have HC1 := Lib.hid hcc1
  clear hc1 hcc1
  have hb := below_alloc w (.cells #[v0, v1] 31)
  have G0 : Hid (SlR 1 intR (w.alloc (.cells #[v0, v1] 31)) (mk_Mem (k) x.mem) v0 fp0) := Lib.hid (by have h := SlR.below intR_fits g0 hb; exact h)
  have G1 : Hid (SlR 1 intR (w.alloc (.cells #[v0, v1] 31)) (mk_ints (k + c0) x.holds) v1 fp1) := Lib.hid (by have h := SlR.below intR_fits g1 hb; rw [HC0.out]; exact h)
  have B := Lib.hid hb
  clear hb hs g0 g1
  go_enter Try.func23, Try.ntmps23
  go_wp2_with fail
  refine (held_Mem x.mem _ fp0 (k) (by omega) (by omega) (HS.out.1) _ G0.out).mono ?_
  rw [← HC0.out]
  rintro e w1 ⟨rfl, b⟩
  have X1 := keep_cell b (alloc1_new w _ _ 1 rfl)
  replace G1 := Lib.hid (SlR.below intR_fits G1.out b)
  replace B := Lib.hid (B.out.trans (b.mono B.out.size))
  clear b
  have p0 : 0 ≤ k + c0 := by omega
  have d0 : decide (k + c0 < 0) = false := decide_eq_false (by omega)
  go_wp2_with fail
  refine (held_ints _ x.holds fp1 (k + c0) (by omega) (by omega) (HS.out.2) _ G1.out).mono ?_
  rw [← HC1.out]
  rintro e w2 ⟨rfl, b⟩
  replace B := Lib.hid (B.out.trans (b.mono B.out.size))
  clear b
  have p1 : 0 ≤ k + c0 + c1 := by omega
  have d1 : decide (k + c0 + c1 < 0) = false := decide_eq_false (by omega)
  go_wp2
  go_ret
  exact ⟨ret_int (by unfold cnt_Atm; rw [← HC0.out, ← HC1.out]; omega), B.out⟩


end Go.Proofs.Ytjapdkjfnmjicaa
