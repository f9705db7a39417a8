/-
  Whether what was told is ok: the reference's l5Told. Printed by gen_tok4.py.
-/
import Derived.Test.YtmmojgopeaelcaaFrm
import Derived.Test.YtmmojgopeaelcaaTOk3
namespace Go.Proofs.Ytmmojgopeaelcaa
set_option linter.unusedVariables false
set_option linter.unusedSimpArgs false
/-- what waits for what -/
def tbl5Told5 : List (List Nat) := [[], [0], [0, 1], [0, 1, 2], [0, 1, 2, 3], [0, 1, 2, 3, 4], [0, 1, 2, 3, 4, 5], [0, 1, 2, 3, 4], [0, 1, 2, 3, 4, 7], [0, 1, 2, 3, 4], [0, 1, 2, 3, 4, 9], [0, 1, 2, 3, 4, 7, 8, 9, 10], [0, 1, 2, 3, 4, 7, 8, 9, 10, 11], [0, 1, 2, 3, 4, 7, 8, 9, 10, 11, 12], [0, 1, 2, 3, 4, 5, 6, 7, 8, 9, 10, 11, 12, 13], [0, 1, 2, 3, 4, 5, 6, 7, 8, 9, 10, 11, 12, 13, 14], [0, 1, 2, 3, 4, 5, 6, 7, 8, 9, 10, 11, 12, 13, 14, 15], [0, 1, 2, 3, 4, 5, 6, 7, 8, 9, 10, 11, 12, 13, 14, 15, 16], [0, 1, 2, 3, 4, 5, 6, 7, 8, 9, 10, 11, 12, 13, 14, 15, 16, 17], [0, 1, 2, 3, 4, 5, 6, 7, 8, 9, 10, 11, 12, 13, 14, 15, 16, 17, 18], [0, 1, 2, 3, 4, 5, 6, 7, 8, 9, 10, 11, 12, 13, 14, 15, 16, 17, 18, 19], [0, 1, 2, 3, 4, 5, 6, 7, 8, 9, 10, 11, 12, 13, 14, 15, 16, 17, 18, 19, 20], [0, 1, 2, 3, 4, 5, 6, 7, 8, 9, 10, 11, 12, 13, 14, 15, 16, 17, 18, 19, 20, 21], [0, 1, 2, 3, 4, 5, 6, 7, 8, 9, 10, 11, 12, 13, 14, 15, 16, 17, 18, 19, 20, 21, 22], [0, 1, 2, 3, 4, 5, 6, 7, 8, 9, 10, 11, 12, 13, 14, 15, 16, 17, 18, 19, 20, 21, 22, 23], [0, 1, 2, 3, 4, 5, 6, 7, 8, 9, 10, 11, 12, 13, 14, 15, 16, 17, 18, 19, 20, 21, 22, 23, 24], [0, 1, 2, 3, 4, 5, 6, 7, 8, 9, 10, 11, 12, 13, 14, 15, 16, 17, 18, 19, 20, 21, 22, 23, 24, 25], [0, 1, 2, 3, 4, 5, 6, 7, 8, 9, 10, 11, 12, 13, 14, 15, 16, 17, 18, 19, 20, 21, 22, 23], [0, 1, 2, 3, 4, 5, 6, 7, 8, 9, 10, 11, 12, 13, 14, 15, 16, 17, 18, 19, 20, 21, 22, 23, 27], [0, 1, 2, 3, 4, 5, 6, 7, 8, 9, 10, 11, 12, 13, 14, 15, 16, 17, 18, 19, 20, 21, 22, 23], [0, 1, 2, 3, 4, 5, 6, 7, 8, 9, 10, 11, 12, 13, 14, 15, 16, 17, 18, 19, 20, 21, 22, 23, 29], [0, 1, 2, 3, 4, 5, 6, 7, 8, 9, 10, 11, 12, 13, 14, 15, 16, 17, 18, 19, 20, 21, 22, 23, 27, 28, 29, 30], [0, 1, 2, 3, 4, 5, 6, 7, 8, 9, 10, 11, 12, 13, 14, 15, 16, 17, 18, 19, 20, 21, 22, 23, 27, 28, 29, 30, 31], [0, 1, 2, 3, 4, 5, 6, 7, 8, 9, 10, 11, 12, 13, 14, 15, 16, 17, 18, 19, 20, 21, 22, 23], [0, 1, 2, 3, 4, 5, 6, 7, 8, 9, 10, 11, 12, 13, 14, 15, 16, 17, 18, 19, 20, 21, 22, 23, 33], [0, 1, 2, 3, 4, 5, 6, 7, 8, 9, 10, 11, 12, 13, 14, 15, 16, 17, 18, 19, 20, 21, 22, 23, 27, 28, 29, 30, 31, 32, 33, 34], [0, 1, 2, 3, 4, 5, 6, 7, 8, 9, 10, 11, 12, 13, 14, 15, 16, 17, 18, 19, 20, 21, 22, 23, 27, 28, 29, 30, 31, 32, 33, 34, 35], [0, 1, 2, 3, 4, 5, 6, 7, 8, 9, 10, 11, 12, 13, 14, 15, 16, 17, 18, 19, 20, 21, 22, 23, 27, 28, 29, 30, 31, 32, 33, 34, 35, 36], [0, 1, 2, 3, 4, 5, 6, 7, 8, 9, 10, 11, 12, 13, 14, 15, 16, 17, 18, 19, 20, 21, 22, 23, 24, 25, 26, 27, 28, 29, 30, 31, 32, 33, 34, 35, 36, 37], [0, 1, 2, 3, 4, 5, 6, 7, 8, 9, 10, 11, 12, 13, 14, 15, 16, 17, 18, 19, 20, 21, 22, 23, 24, 25, 26, 27, 28, 29, 30, 31, 32, 33, 34, 35, 36, 37, 38], [0, 1, 2, 3, 4, 5, 6, 7, 8, 9, 10, 11, 12, 13, 14, 15, 16, 17, 18, 19, 20, 21, 22, 23, 24, 25, 26, 27, 28, 29, 30, 31, 32, 33, 34, 35, 36, 37, 38, 39], [0, 1, 2, 3, 4, 5, 6, 7, 8, 9, 10, 11, 12, 13, 14, 15, 16, 17, 18, 19, 20, 21, 22, 23, 24, 25, 26, 27, 28, 29, 30, 31, 32, 33, 34, 35, 36, 37, 38, 39, 40], [0, 1, 2, 3, 4, 5, 6, 7, 8, 9, 10, 11, 12, 13, 14, 15, 16, 17, 18, 19, 20, 21, 22, 23, 24, 25, 26, 27, 28, 29, 30, 31, 32, 33, 34, 35, 36, 37, 38, 39, 40, 41], [0, 1, 2, 3, 4, 5, 6, 7, 8, 9, 10, 11, 12, 13, 14, 15, 16, 17, 18, 19, 20, 21, 22, 23, 24, 25, 26, 27, 28, 29, 30, 31, 32, 33, 34, 35, 36, 37, 38, 39, 40], [0, 1, 2, 3, 4, 5, 6, 7, 8, 9, 10, 11, 12, 13, 14, 15, 16, 17, 18, 19, 20, 21, 22, 23, 24, 25, 26, 27, 28, 29, 30, 31, 32, 33, 34, 35, 36, 37, 38, 39, 40, 41, 42, 43], [0, 1, 2, 3, 4, 5, 6, 7, 8, 9, 10, 11, 12, 13, 14, 15, 16, 17, 18, 19, 20, 21, 22, 23, 24, 25, 26, 27, 28, 29, 30, 31, 32, 33, 34, 35, 36, 37, 38, 39, 40], [0, 1, 2, 3, 4, 5, 6, 7, 8, 9, 10, 11, 12, 13, 14, 15, 16, 17, 18, 19, 20, 21, 22, 23, 24, 25, 26, 27, 28, 29, 30, 31, 32, 33, 34, 35, 36, 37, 38, 39, 40, 45], [0, 1, 2, 3, 4, 5, 6, 7, 8, 9, 10, 11, 12, 13, 14, 15, 16, 17, 18, 19, 20, 21, 22, 23, 24, 25, 26, 27, 28, 29, 30, 31, 32, 33, 34, 35, 36, 37, 38, 39, 40], [0, 1, 2, 3, 4, 5, 6, 7, 8, 9, 10, 11, 12, 13, 14, 15, 16, 17, 18, 19, 20, 21, 22, 23, 24, 25, 26, 27, 28, 29, 30, 31, 32, 33, 34, 35, 36, 37, 38, 39, 40, 47], [0, 1, 2, 3, 4, 5, 6, 7, 8, 9, 10, 11, 12, 13, 14, 15, 16, 17, 18, 19, 20, 21, 22, 23, 24, 25, 26, 27, 28, 29, 30, 31, 32, 33, 34, 35, 36, 37, 38, 39, 40, 41, 42, 43, 44, 45, 46, 47, 48], [0, 1, 2, 3, 4, 5, 6, 7, 8, 9, 10, 11, 12, 13, 14, 15, 16, 17, 18, 19, 20, 21, 22, 23, 24, 25, 26, 27, 28, 29, 30, 31, 32, 33, 34, 35, 36, 37, 38, 39, 40, 41, 42, 43, 44, 45, 46, 47, 48, 49], [0, 1, 2, 3, 4, 5, 6, 7, 8, 9, 10, 11, 12, 13, 14, 15, 16, 17, 18, 19, 20, 21, 22, 23, 24, 25, 26, 27, 28, 29, 30, 31, 32, 33, 34, 35, 36, 37, 38, 39, 40, 41, 42, 43, 44, 45, 46, 47, 48, 49, 50]]
open Go.RowKit Go.ChangeShapes

/-- up to one, no job is one of those ahead of it -/
def FreshTo (l : List Job) (m : Nat) : Prop := ∀ k (h : k < l.length), k < m → (l.take k).any (isJob l[k].who l[k].n) = false
noncomputable def fresh (l : List Job) : Bool := @decide (FreshTo l l.length) (Classical.propDecidable _)
theorem FreshTo.zero (l : List Job) : FreshTo l 0 := fun k _ h => absurd h (Nat.not_lt_zero k)
theorem FreshTo.step {l : List Job} {m : Nat} (h : FreshTo l m) {hm : m < l.length} (hb : (l.take m).any (isJob l[m].who l[m].n) = false) : FreshTo l (m + 1) := fun k hk h1 => by
  by_cases e : k = m
  · subst e; exact hb
  · exact h k hk (by omega)
theorem fresh_yes {l : List Job} {m : Nat} (h : FreshTo l m) (hm : l.length ≤ m) : fresh l = true := by
  unfold fresh; exact @decide_eq_true _ (Classical.propDecidable _) fun k hk _ => h k hk (by omega)
theorem fresh_no {l : List Job} {m : Nat} (hm : m < l.length) (hb : (l.take m).any (isJob l[m].who l[m].n) = true) : fresh l = false := by
  unfold fresh; exact @decide_eq_false _ (Classical.propDecidable _) fun h => by have := h m hm hm; rw [hb] at this; cases this
theorem fresh_at {l : List Job} (h : fresh l = true) : FreshTo l l.length := by
  unfold fresh at h; exact @of_decide_eq_true _ (Classical.propDecidable _) h
/-- what was told is ok -/
noncomputable def toldOk (c : Bus) (asked : List Int) (l : List Job) : Bool := l.all (jobGood c asked true) && fresh l
theorem told_no1 {c : Bus} {asked : List Int} {l : List Job} {k : Nat} (hk : k < l.length) (h : jobGood c asked true l[k] = false) : toldOk c asked l = false := by
  unfold toldOk
  rw [show l.all (jobGood c asked true) = false by rw [List.all_eq_false]; exact ⟨l[k], List.getElem_mem hk, by simp [h]⟩]
  rfl
theorem told_no2 {c : Bus} {asked : List Int} {l : List Job} (h : fresh l = false) : toldOk c asked l = false := by
  unfold toldOk; rw [h, Bool.and_false]
theorem told_yes {c : Bus} {asked : List Int} {l : List Job} (h : ∀ k (hk : k < l.length), jobGood c asked true l[k] = true) (hr : fresh l = true) : toldOk c asked l = true := by
  unfold toldOk
  rw [hr, Bool.and_true, List.all_eq_true]
  intro x hx
  obtain ⟨k, hk, rfl⟩ := List.mem_iff_getElem.1 hx
  exact h k hk

set_option maxRecDepth 100000 in
set_option maxHeartbeats 12800000 in
theorem l5Told_any (c : Bus) (asked : List Int) (l : List Job) (hc : AskOk c asked) (v0 v1 v2 s0 s1 va s3 s4 v : Value) (fp2 fa fp : List Nat) (w : World) (g2 : SlR 1 (slR 7 reqR) w c.progs v2 fp2) (ga : SlR 1 intR w asked va fa) (g : SlR 5 jobR w l v fp) :
    Calls Try.prog 103 #[.agg #[v0, v1, v2], .agg #[s0, s1, va, s3, s4, v]] w fun e w' => e = .returned (.bool (toldOk c asked l)) ∧ Below w.heap.size w w' := by
  obtain ⟨a, n, cap, rfl, hn, hcap, hmax, hcm, r⟩ := g.opened
  obtain ⟨aa, an, ac, rfl, han, -, -, -, ra⟩ := ga.opened
  obtain ⟨a2, pn, pc, rfl, hpn, -, -, -, rp⟩ := g2.opened
  clear r ra rp
  obtain ⟨w1, hw1⟩ : ∃ z, z = (w.alloc (.cells #[v0, v1, .slice a2 pn pc] 32)).alloc (.cells #[s0, s1, .slice aa an ac, s3, s4, .slice a n cap] 69) := ⟨_, rfl⟩
  have b1 : Below w.heap.size w w1 := by rw [hw1]; exact (below_alloc _ _).trans ((below_alloc _ _).mono (by simp))
  have x2 : w1.cell? ⟨w.heap.size, 2, none⟩ = some (.slice a2 pn pc) := by rw [hw1]; exact alloc_keep (alloc1_new _ _ _ 2 rfl) _
  have y2 : w1.cell? ⟨w.heap.size + 1, 2, none⟩ = some (.slice aa an ac) := by rw [hw1]; exact alloc2_new _ _ _ _ _ 2 rfl
  have y5 : w1.cell? ⟨w.heap.size + 1, 5, none⟩ = some (.slice a n cap) := by rw [hw1]; exact alloc2_new _ _ _ _ _ 5 rfl
  have G := Lib.hid (SlR.below jobR_fits g b1)
  have G2 := Lib.hid (SlR.below (slR_fits reqR_fits) g2 b1)
  have GA := Lib.hid (SlR.below intR_fits ga b1)
  have B1 := Lib.hid b1
  have HC := Lib.hid hc
  have HX := Lib.hid x2
  have HY2 := Lib.hid y2
  have HY5 := Lib.hid y5
  clear g g2 ga b1 hc x2 y2 y5
  go_enter Try.func103, Try.ntmps103
  go_upto_region 1 with fail
  rw [← hw1]
  clear hw1
  go_wp2_with fail
  go_loopw [5] (fun i wr => ∃ k : Nat, k ≤ n ∧ i = .int .i64 k ∧ (∀ j (h : j < l.length), j < k → jobGood c asked true l[j] = true) ∧ FreshTo l k ∧ Below w.heap.size w wr ∧ Below w1.heap.size w1 wr) (fun i _ => n - (intOf i).toNat)
  case atStart => exact ⟨0, Nat.zero_le _, rfl, fun j _ h => absurd h (Nat.not_lt_zero j), FreshTo.zero l, B1.out, Below.refl _ _⟩
  case round =>
    obtain ⟨k, hk, rfl, hg, hr, hb, hb1⟩ := hrel
    have HG := Lib.hid hg
    have HR := Lib.hid hr
    have HB := Lib.hid hb
    have S5 := keep_cell hb1 HY5.out
    clear hg hr hb
    by_cases hlt : k < n
    · have hL : k < l.length := by rw [hn.out]; exact hlt
      have Gk := Lib.hid (SlR.below jobR_fits G.out hb1)
      obtain ⟨lb, lo, jv, df, rfl, hlb, -, -, ⟨q0, q1, q2, q3, q4⟩, gd⟩ := jobs_at Gk.out hL
      obtain ⟨⟨jw, jn, ⟨ji, jc, jd⟩⟩, hj⟩ : ∃ z, l[k] = z := ⟨_, rfl⟩
      rw [hj] at q0 q1 q2 q3 gd
      have HJ := Lib.hid hj
      obtain ⟨dva, dvn, dvc, rfl, hdv, -, -, -, -⟩ := gd.opened
      have hkn : (k : Int) < (n : Int) := by omega
      clear hdv
      go_upto_region 5 with fail
      obtain ⟨w4, hw4⟩ : ∃ z, z = wr.alloc (.cells #[.int .i64 jw, .int .i64 jn, .int .i64 ji, .int .i64 jc, .slice dva dvn dvc] 127) := ⟨_, rfl⟩
      rw [← hw4]
      have b4 : Below wr.heap.size wr w4 := by rw [hw4]; exact below_alloc _ _
      have D0 : w4.cell? ⟨wr.heap.size, 0, none⟩ = some (.int .i64 jw) := by rw [hw4]; exact alloc1_new _ _ _ 0 rfl
      have D1 : w4.cell? ⟨wr.heap.size, 1, none⟩ = some (.int .i64 jn) := by rw [hw4]; exact alloc1_new _ _ _ 1 rfl
      have D2 : w4.cell? ⟨wr.heap.size, 2, none⟩ = some (.int .i64 ji) := by rw [hw4]; exact alloc1_new _ _ _ 2 rfl
      have D3 : w4.cell? ⟨wr.heap.size, 3, none⟩ = some (.int .i64 jc) := by rw [hw4]; exact alloc1_new _ _ _ 3 rfl
      have D4 : w4.cell? ⟨wr.heap.size, 4, none⟩ = some (.slice dva dvn dvc) := by rw [hw4]; exact alloc1_new _ _ _ 4 rfl
      have B4 := Lib.hid (HB.out.trans (b4.mono HB.out.size))
      have b14 := hb1.trans (b4.mono hb1.size)
      have B14 := Lib.hid b14
      have GD4 := Lib.hid (SlR.below intR_fits gd b4)
      replace S5 := keep_cell b4 S5
      clear hw4 b4 q0 q1 q2 q3 q4 gd hj
      generalize wr.heap.size = bj at *
      obtain ⟨bw, hw⟩ : ∃ z, inB jw 0 2 = z := ⟨_, rfl⟩
      have HWho := Lib.hid hw
      cases bw
      · have HNo : Hid (jobGood c asked true l[k] = false) := Lib.hid (by rw [HJ.out]; unfold jobGood jobFit; simp only [HWho.out, Bool.false_and])
        clear b14 hb1 hw S5
        have hst : ∀ F, F ∈ [FEq (.pointer (some ⟨bj, 0, none⟩)), FEq (.int .i64 jw), FEq (.bool false), FEq (.bool true), FEq (.bool true), FEq undef, FEq undef, FEq undef, FEq undef, FEq undef, FEq undef, FEq undef, FEq undef, FEq undef, FEq undef, FEq undef, FEq (.bool true), FEq (.bool true), FEq undef, FEq undef, FEq undef, FEq undef, FEq (.bool true), FEq (.bool true), FEq undef, FEq undef, FEq undef, FEq undef, FEq undef, FEq undef, FEq undef, FEq undef, FEq undef, FEq undef, FEq undef, FEq undef, FEq undef, FEq undef, FEq undef, FEq (.bool true), FEq (.bool true), FEq undef, FEq undef, FEq undef, FEq undef, FEq undef, FEq undef, FEq undef, FEq undef, FEq undef, FEq undef] → Stable [] F := by
          simp only [List.forall_mem_cons]
          exact ⟨stEq _ _, stEq _ _, stEq _ _, stEq _ _, stEq _ _, stEq _ _, stEq _ _, stEq _ _, stEq _ _, stEq _ _, stEq _ _, stEq _ _, stEq _ _, stEq _ _, stEq _ _, stEq _ _, stEq _ _, stEq _ _, stEq _ _, stEq _ _, stEq _ _, stEq _ _, stEq _ _, stEq _ _, stEq _ _, stEq _ _, stEq _ _, stEq _ _, stEq _ _, stEq _ _, stEq _ _, stEq _ _, stEq _ _, stEq _ _, stEq _ _, stEq _ _, stEq _ _, stEq _ _, stEq _ _, stEq _ _, stEq _ _, stEq _ _, stEq _ _, stEq _ _, stEq _ _, stEq _ _, stEq _ _, stEq _ _, stEq _ _, stEq _ _, stEq _ _, fun _ h => by simp at h⟩
        refine wp_region_skip (by kernel_rfl) (fun i => (tbl5Told5 : List (List Nat)).getD i []) (facts [FEq (.pointer (some ⟨bj, 0, none⟩)), FEq (.int .i64 jw), FEq (.bool false), FEq (.bool true), FEq (.bool true), FEq undef, FEq undef, FEq undef, FEq undef, FEq undef, FEq undef, FEq undef, FEq undef, FEq undef, FEq undef, FEq undef, FEq (.bool true), FEq (.bool true), FEq undef, FEq undef, FEq undef, FEq undef, FEq (.bool true), FEq (.bool true), FEq undef, FEq undef, FEq undef, FEq undef, FEq undef, FEq undef, FEq undef, FEq undef, FEq undef, FEq undef, FEq undef, FEq undef, FEq undef, FEq undef, FEq undef, FEq (.bool true), FEq (.bool true), FEq undef, FEq undef, FEq undef, FEq undef, FEq undef, FEq undef, FEq undef, FEq undef, FEq undef, FEq undef]) (fun m w' => Below w4.heap.size w4 w') 71 52 51 [some 19, some 20, some 21, some 22, some 23, some 24, some 25, some 26, some 27, some 28, some 29, some 30, some 31, some 32, some 33, some 34, some 35, some 36, some 37, some 38, some 39, some 40, some 41, some 42, some 43, some 44, some 45, some 46, some 47, some 48, some 49, some 50, some 51, some 52, some 53, some 54, some 55, some 56, some 57, some 58, some 59, some 60, some 61, some 62, some 63, some 64, some 65, some 66, some 67, some 68, some 69] _ rfl rfl (by decide) rfl rfl (by kernel_rfl) (by kernel_rfl) [5, 6, 7, 8, 9, 10, 11, 12, 13, 14, 15, 18, 19, 20, 21, 24, 25, 26, 27, 28, 29, 30, 31, 32, 33, 34, 35, 36, 37, 38, 41, 42, 43, 44, 45, 46, 47, 48, 49, 50] [(17, true), (23, true), (4, true), (40, true)] (by kernel_rfl) (fun g b hm v w h => by simp only [List.mem_cons, List.not_mem_nil, or_false, Prod.mk.injEq] at hm; rcases hm with ⟨rfl, rfl⟩ | ⟨rfl, rfl⟩ | ⟨rfl, rfl⟩ | ⟨rfl, rfl⟩ <;> exact h) (fun i hi w => by simp only [List.mem_cons, List.not_mem_nil, or_false] at hi; rcases hi with rfl | rfl | rfl | rfl | rfl | rfl | rfl | rfl | rfl | rfl | rfl | rfl | rfl | rfl | rfl | rfl | rfl | rfl | rfl | rfl | rfl | rfl | rfl | rfl | rfl | rfl | rfl | rfl | rfl | rfl | rfl | rfl | rfl | rfl | rfl | rfl | rfl | rfl | rfl | rfl <;> rfl) (fun _ _ h => h) ?h0 (all_lt (n := 51) ?hop) ?hend
        case h0 => exact (Below.refl _ _).drew
        case hop =>
          refine ⟨⟨⟨⟨⟨⟨⟨⟨⟨⟨⟨⟨⟨⟨⟨⟨⟨⟨⟨⟨⟨⟨⟨⟨⟨⟨⟨⟨⟨⟨⟨⟨⟨⟨⟨⟨⟨⟨⟨⟨⟨⟨⟨⟨⟨⟨⟨⟨⟨⟨⟨trivial, ?_⟩, ?_⟩, ?_⟩, ?_⟩, ?_⟩, ?_⟩, ?_⟩, ?_⟩, ?_⟩, ?_⟩, ?_⟩, ?_⟩, ?_⟩, ?_⟩, ?_⟩, ?_⟩, ?_⟩, ?_⟩, ?_⟩, ?_⟩, ?_⟩, ?_⟩, ?_⟩, ?_⟩, ?_⟩, ?_⟩, ?_⟩, ?_⟩, ?_⟩, ?_⟩, ?_⟩, ?_⟩, ?_⟩, ?_⟩, ?_⟩, ?_⟩, ?_⟩, ?_⟩, ?_⟩, ?_⟩, ?_⟩, ?_⟩, ?_⟩, ?_⟩, ?_⟩, ?_⟩, ?_⟩, ?_⟩, ?_⟩, ?_⟩, ?_⟩
          all_goals first | exact .inl (by decide) | skip
          · refine .inr (Owes.q 71 (fun u => [(6, .pointer (some ⟨bj, 0, none⟩))]) fun u w' hI hR => ?_); dsimp only [frm, List.foldl, List.replicate, List.set]; clear hI hst hR; go_wp2; exact ⟨rfl, _, rfl, rfl, rfl⟩
          · refine .inr (Owes.q 71 (fun u => [(19, u 0)]) fun u w' hI hR => ?_); dsimp only [frm, List.foldl, List.replicate, List.set]; obtain ⟨_, hI⟩ := hI; have k0 := keep_cell hI D0; have e0 : u 0 = _ := hR 0 (by decide); rw [e0]; clear hI hst hR; go_wp2; exact ⟨rfl, _, rfl, rfl, rfl⟩
          · refine .inr (Owes.mk _ rfl rfl (fun _ _ h => by cases h) fun u m w' hm hI hR => ⟨⟨(frm 71 [(20, u 1)]).toArray, []⟩, rfl, fun d hd => by cases hd; exact frm_lt (by decide), ?_⟩)
            dsimp only [frm, List.foldl, List.replicate, List.set]
            have e1 : u 1 = _ := hR 1 (by decide)
            have k0 := keep_cell hI D0
            have k1 := keep_cell hI D1
            have k2 := keep_cell hI D2
            have k3 := keep_cell hI D3
            have k4 := keep_cell hI D4
            rw [e1]
            clear e1
            have HI := Lib.hid hI
            clear hI hst
            go_wp2_with fail
            refine (l1In_v HWho.out _).mono ?_
            rintro e w5 ⟨rfl, rfl⟩
            go_wp2
            exact ⟨rfl, _, rfl, rfl, HI.out, fun _ _ h => h⟩
          · refine .inr (Owes.q 71 (fun u => [(21, u 2)]) fun u w' hI hR => ?_); dsimp only [frm, List.foldl, List.replicate, List.set]; have e2 : u 2 = _ := hR 2 (by decide); rw [e2]; clear hI hst hR; go_wp2; exact ⟨rfl, _, rfl, rfl, rfl⟩
          · refine .inr (Owes.q 71 (fun u => [(22, u 3)]) fun u w' hI hR => ?_); dsimp only [frm, List.foldl, List.replicate, List.set]; have e3 : u 3 = _ := hR 3 (by decide); rw [e3]; clear hI hst hR; go_wp2; exact ⟨rfl, _, rfl, rfl, rfl⟩
          · refine .inr (Owes.q 71 (fun u => [(23, u 4), (34, u 15)]) fun u w' hI hR => ?_); dsimp only [frm, List.foldl, List.replicate, List.set]; have e4 : u 4 = _ := hR 4 (by decide); have e15 : u 15 = _ := hR 15 (by decide); rw [e4, e15]; clear hI hst hR; go_wp2; exact ⟨rfl, _, rfl, rfl, rfl⟩
          · refine .inr (Owes.q 71 (fun u => [(35, u 16)]) fun u w' hI hR => ?_); dsimp only [frm, List.foldl, List.replicate, List.set]; have e16 : u 16 = _ := hR 16 (by decide); rw [e16]; clear hI hst hR; go_wp2; exact ⟨rfl, _, rfl, rfl, rfl⟩
          · refine .inr (Owes.q 71 (fun u => [(36, u 17), (40, u 21)]) fun u w' hI hR => ?_); dsimp only [frm, List.foldl, List.replicate, List.set]; have e17 : u 17 = _ := hR 17 (by decide); have e21 : u 21 = _ := hR 21 (by decide); rw [e17, e21]; clear hI hst hR; go_wp2; exact ⟨rfl, _, rfl, rfl, rfl⟩
          · refine .inr (Owes.q 71 (fun u => [(41, u 22)]) fun u w' hI hR => ?_); dsimp only [frm, List.foldl, List.replicate, List.set]; have e22 : u 22 = _ := hR 22 (by decide); rw [e22]; clear hI hst hR; go_wp2; exact ⟨rfl, _, rfl, rfl, rfl⟩
          · refine .inr (Owes.q 71 (fun u => [(42, u 23), (57, u 38)]) fun u w' hI hR => ?_); dsimp only [frm, List.foldl, List.replicate, List.set]; have e23 : u 23 = _ := hR 23 (by decide); have e38 : u 38 = _ := hR 38 (by decide); rw [e23, e38]; clear hI hst hR; go_wp2; exact ⟨rfl, _, rfl, rfl, rfl⟩
          · refine .inr (Owes.q 71 (fun u => [(58, u 39)]) fun u w' hI hR => ?_); dsimp only [frm, List.foldl, List.replicate, List.set]; have e39 : u 39 = _ := hR 39 (by decide); rw [e39]; clear hI hst hR; go_wp2; exact ⟨rfl, _, rfl, rfl, rfl⟩
        case hend =>
          intro u w' hI hR
          simp only [setAll, List.set_cons_zero, List.set_cons_succ]
          have e40 : u 40 = _ := hR 40 (by decide)
          rw [e40]
          clear e40
          have HB5 := Lib.hid (B4.out.trans (hI.mono B4.out.size))
          clear hR hst hI D0 D1 D2 D3 D4
          go_wp2
          go_ret
          exact ⟨ret_bool (told_no1 hL HNo.out).symm, HB5.out⟩
      · have hw2 := inB_true.1 hw
        obtain ⟨uu, rfl⟩ := Int.eq_ofNat_of_zero_le hw2.1
        have hu3 : uu < asked.length := by rw [HC.out.la]; omega
        have hu4 : uu < c.progs.length := by rw [HC.out.lp]; omega
        obtain ⟨au, hau⟩ : ∃ z, asked[uu] = z := ⟨_, rfl⟩
        obtain ⟨ha1, ha2, ha3⟩ := HC.out.at' uu hu3 hu4
        rw [hau] at ha1 ha2
        have Gak := Lib.hid (SlR.below intR_fits GA.out b14)
        obtain ⟨_, _, _, ea, -, -, -, -, ra⟩ := Gak.out.opened
        cases ea
        obtain ⟨_, ab, ao, _, cs, rfl, -, -, -, ⟨rfl, -⟩, ea⟩ := ra uu (by rw [← han.out]; exact hu3)
        have A0 := ea 0 (by simp)
        simp only [Nat.mul_one, Nat.add_zero, List.getElem_cons_zero] at A0
        rw [hau] at A0
        have S2 := keep_cell b14 HY2.out
        have hua : (uu : Int) < (an : Int) := by have := han.out; omega
        have HU : Hid (∀ (x : Int) (r : Rsp), jobFit asked ⟨uu, x, r⟩ = inB x 0 (au - 1)) := Lib.hid (fun x r => by rw [fit_at hu3 rfl, HWho.out, hau]; rfl)
        clear ra ea hw hau hw2
        obtain ⟨bn, hbn⟩ : ∃ z, inB jn 0 (au - 1) = z := ⟨_, rfl⟩
        have HN := Lib.hid hbn
        cases bn
        · have HNo : Hid (jobGood c asked true l[k] = false) := Lib.hid (by rw [HJ.out]; unfold jobGood; rw [HU.out, HN.out]; rfl)
          clear b14 hb1 hbn S5
          have hst : ∀ F, F ∈ [FEq (.pointer (some ⟨bj, 0, none⟩)), FEq (.int .i64 (uu : Int)), FEq (.bool true), FEq (.bool false), FEq (.bool false), FEq (.pointer (some ⟨bj, 1, none⟩)), FEq (.int .i64 jn), FEq (.pointer (some ⟨w.heap.size + 1, 2, none⟩)), FEq (.slice (some ⟨ab, ao, none⟩) an ac), FEq (.pointer (some ⟨bj, 0, none⟩)), FEq (.int .i64 (uu : Int)), FEq (.pointer (some ⟨ab, ao + uu, none⟩)), FEq (.int .i64 au), FEq (.int .i64 (au - 1)), FEq (.bool false), FEq (.bool true), FEq (.bool true), FEq (.bool true), FEq undef, FEq undef, FEq undef, FEq undef, FEq (.bool true), FEq (.bool true), FEq undef, FEq undef, FEq undef, FEq undef, FEq undef, FEq undef, FEq undef, FEq undef, FEq undef, FEq undef, FEq undef, FEq undef, FEq undef, FEq undef, FEq undef, FEq (.bool true), FEq (.bool true), FEq undef, FEq undef, FEq undef, FEq undef, FEq undef, FEq undef, FEq undef, FEq undef, FEq undef, FEq undef] → Stable [] F := by
            simp only [List.forall_mem_cons]
            exact ⟨stEq _ _, stEq _ _, stEq _ _, stEq _ _, stEq _ _, stEq _ _, stEq _ _, stEq _ _, stEq _ _, stEq _ _, stEq _ _, stEq _ _, stEq _ _, stEq _ _, stEq _ _, stEq _ _, stEq _ _, stEq _ _, stEq _ _, stEq _ _, stEq _ _, stEq _ _, stEq _ _, stEq _ _, stEq _ _, stEq _ _, stEq _ _, stEq _ _, stEq _ _, stEq _ _, stEq _ _, stEq _ _, stEq _ _, stEq _ _, stEq _ _, stEq _ _, stEq _ _, stEq _ _, stEq _ _, stEq _ _, stEq _ _, stEq _ _, stEq _ _, stEq _ _, stEq _ _, stEq _ _, stEq _ _, stEq _ _, stEq _ _, stEq _ _, stEq _ _, fun _ h => by simp at h⟩
          refine wp_region_skip (by kernel_rfl) (fun i => (tbl5Told5 : List (List Nat)).getD i []) (facts [FEq (.pointer (some ⟨bj, 0, none⟩)), FEq (.int .i64 (uu : Int)), FEq (.bool true), FEq (.bool false), FEq (.bool false), FEq (.pointer (some ⟨bj, 1, none⟩)), FEq (.int .i64 jn), FEq (.pointer (some ⟨w.heap.size + 1, 2, none⟩)), FEq (.slice (some ⟨ab, ao, none⟩) an ac), FEq (.pointer (some ⟨bj, 0, none⟩)), FEq (.int .i64 (uu : Int)), FEq (.pointer (some ⟨ab, ao + uu, none⟩)), FEq (.int .i64 au), FEq (.int .i64 (au - 1)), FEq (.bool false), FEq (.bool true), FEq (.bool true), FEq (.bool true), FEq undef, FEq undef, FEq undef, FEq undef, FEq (.bool true), FEq (.bool true), FEq undef, FEq undef, FEq undef, FEq undef, FEq undef, FEq undef, FEq undef, FEq undef, FEq undef, FEq undef, FEq undef, FEq undef, FEq undef, FEq undef, FEq undef, FEq (.bool true), FEq (.bool true), FEq undef, FEq undef, FEq undef, FEq undef, FEq undef, FEq undef, FEq undef, FEq undef, FEq undef, FEq undef]) (fun m w' => Below w4.heap.size w4 w') 71 52 51 [some 19, some 20, some 21, some 22, some 23, some 24, some 25, some 26, some 27, some 28, some 29, some 30, some 31, some 32, some 33, some 34, some 35, some 36, some 37, some 38, some 39, some 40, some 41, some 42, some 43, some 44, some 45, some 46, some 47, some 48, some 49, some 50, some 51, some 52, some 53, some 54, some 55, some 56, some 57, some 58, some 59, some 60, some 61, some 62, some 63, some 64, some 65, some 66, some 67, some 68, some 69] _ rfl rfl (by decide) rfl rfl (by kernel_rfl) (by kernel_rfl) [18, 19, 20, 21, 24, 25, 26, 27, 28, 29, 30, 31, 32, 33, 34, 35, 36, 37, 38, 41, 42, 43, 44, 45, 46, 47, 48, 49, 50] [(17, true), (23, true), (4, false), (40, true)] (by kernel_rfl) (fun g b hm v w h => by simp only [List.mem_cons, List.not_mem_nil, or_false, Prod.mk.injEq] at hm; rcases hm with ⟨rfl, rfl⟩ | ⟨rfl, rfl⟩ | ⟨rfl, rfl⟩ | ⟨rfl, rfl⟩ <;> exact h) (fun i hi w => by simp only [List.mem_cons, List.not_mem_nil, or_false] at hi; rcases hi with rfl | rfl | rfl | rfl | rfl | rfl | rfl | rfl | rfl | rfl | rfl | rfl | rfl | rfl | rfl | rfl | rfl | rfl | rfl | rfl | rfl | rfl | rfl | rfl | rfl | rfl | rfl | rfl | rfl <;> rfl) (fun _ _ h => h) ?h0 (all_lt (n := 51) ?hop) ?hend
          case h0 => exact (Below.refl _ _).drew
          case hop =>
            refine ⟨⟨⟨⟨⟨⟨⟨⟨⟨⟨⟨⟨⟨⟨⟨⟨⟨⟨⟨⟨⟨⟨⟨⟨⟨⟨⟨⟨⟨⟨⟨⟨⟨⟨⟨⟨⟨⟨⟨⟨⟨⟨⟨⟨⟨⟨⟨⟨⟨⟨⟨trivial, ?_⟩, ?_⟩, ?_⟩, ?_⟩, ?_⟩, ?_⟩, ?_⟩, ?_⟩, ?_⟩, ?_⟩, ?_⟩, ?_⟩, ?_⟩, ?_⟩, ?_⟩, ?_⟩, ?_⟩, ?_⟩, ?_⟩, ?_⟩, ?_⟩, ?_⟩, ?_⟩, ?_⟩, ?_⟩, ?_⟩, ?_⟩, ?_⟩, ?_⟩, ?_⟩, ?_⟩, ?_⟩, ?_⟩, ?_⟩, ?_⟩, ?_⟩, ?_⟩, ?_⟩, ?_⟩, ?_⟩, ?_⟩, ?_⟩, ?_⟩, ?_⟩, ?_⟩, ?_⟩, ?_⟩, ?_⟩, ?_⟩, ?_⟩, ?_⟩
            all_goals first | exact .inl (by decide) | skip
            · refine .inr (Owes.q 71 (fun u => [(6, .pointer (some ⟨bj, 0, none⟩))]) fun u w' hI hR => ?_); dsimp only [frm, List.foldl, List.replicate, List.set]; clear hI hst hR; go_wp2; exact ⟨rfl, _, rfl, rfl, rfl⟩
            · refine .inr (Owes.q 71 (fun u => [(19, u 0)]) fun u w' hI hR => ?_); dsimp only [frm, List.foldl, List.replicate, List.set]; obtain ⟨_, hI⟩ := hI; have k0 := keep_cell hI D0; have e0 : u 0 = _ := hR 0 (by decide); rw [e0]; clear hI hst hR; go_wp2; exact ⟨rfl, _, rfl, rfl, rfl⟩
            · refine .inr (Owes.mk _ rfl rfl (fun _ _ h => by cases h) fun u m w' hm hI hR => ⟨⟨(frm 71 [(20, u 1)]).toArray, []⟩, rfl, fun d hd => by cases hd; exact frm_lt (by decide), ?_⟩)
              dsimp only [frm, List.foldl, List.replicate, List.set]
              have e1 : u 1 = _ := hR 1 (by decide)
              have k0 := keep_cell hI D0
              have k1 := keep_cell hI D1
              have k2 := keep_cell hI D2
              have k3 := keep_cell hI D3
              have k4 := keep_cell hI D4
              have k5 := keep_cell hI S2
              have k6 := keep_cell hI A0
              rw [e1]
              clear e1
              have HI := Lib.hid hI
              clear hI hst
              go_wp2_with fail
              refine (l1In_v HWho.out _).mono ?_
              rintro e w5 ⟨rfl, rfl⟩
              go_wp2
              exact ⟨rfl, _, rfl, rfl, HI.out, fun _ _ h => h⟩
            · refine .inr (Owes.q 71 (fun u => [(21, u 2)]) fun u w' hI hR => ?_); dsimp only [frm, List.foldl, List.replicate, List.set]; have e2 : u 2 = _ := hR 2 (by decide); rw [e2]; clear hI hst hR; go_wp2; exact ⟨rfl, _, rfl, rfl, rfl⟩
            · refine .inr (Owes.q 71 (fun u => [(22, u 3)]) fun u w' hI hR => ?_); dsimp only [frm, List.foldl, List.replicate, List.set]; have e3 : u 3 = _ := hR 3 (by decide); rw [e3]; clear hI hst hR; go_wp2; exact ⟨rfl, _, rfl, rfl, rfl⟩
            · refine .inr (Owes.qG 71 (fun u => [(6, .pointer (some ⟨bj, 0, none⟩))]) fun u w' hI hR => ?_); dsimp only [frm, List.foldl, List.replicate, List.set]; clear hI hst hR; go_wp2; exact ⟨rfl, _, rfl, rfl, rfl⟩
            · refine .inr (Owes.qG 71 (fun u => [(24, u 5)]) fun u w' hI hR => ?_); dsimp only [frm, List.foldl, List.replicate, List.set]; obtain ⟨_, hI⟩ := hI; have k1 := keep_cell hI D1; have e5 : u 5 = _ := hR 5 (by decide); rw [e5]; clear hI hst hR; go_wp2; exact ⟨rfl, _, rfl, rfl, rfl⟩
            · refine .inr (Owes.qG 71 (fun u => [(3, .pointer (some ⟨w.heap.size + 1, 0, none⟩))]) fun u w' hI hR => ?_); dsimp only [frm, List.foldl, List.replicate, List.set]; clear hI hst hR; go_wp2; exact ⟨rfl, _, rfl, rfl, rfl⟩
            · refine .inr (Owes.qG 71 (fun u => [(26, u 7)]) fun u w' hI hR => ?_); dsimp only [frm, List.foldl, List.replicate, List.set]; obtain ⟨_, hI⟩ := hI; have k5 := keep_cell hI S2; have e7 : u 7 = _ := hR 7 (by decide); rw [e7]; clear hI hst hR; go_wp2; exact ⟨rfl, _, rfl, rfl, rfl⟩
            · refine .inr (Owes.qG 71 (fun u => [(6, .pointer (some ⟨bj, 0, none⟩))]) fun u w' hI hR => ?_); dsimp only [frm, List.foldl, List.replicate, List.set]; clear hI hst hR; go_wp2; exact ⟨rfl, _, rfl, rfl, rfl⟩
            · refine .inr (Owes.qG 71 (fun u => [(28, u 9)]) fun u w' hI hR => ?_); dsimp only [frm, List.foldl, List.replicate, List.set]; obtain ⟨_, hI⟩ := hI; have k0 := keep_cell hI D0; have e9 : u 9 = _ := hR 9 (by decide); rw [e9]; clear hI hst hR; go_wp2; exact ⟨rfl, _, rfl, rfl, rfl⟩
            · refine .inr (Owes.qG 71 (fun u => [(27, u 8), (29, u 10)]) fun u w' hI hR => ?_); dsimp only [frm, List.foldl, List.replicate, List.set]; have e8 : u 8 = _ := hR 8 (by decide); have e10 : u 10 = _ := hR 10 (by decide); rw [e8, e10]; clear hI hst hR; go_wp2; exact ⟨rfl, _, rfl, rfl, rfl⟩
            · refine .inr (Owes.qG 71 (fun u => [(30, u 11)]) fun u w' hI hR => ?_); dsimp only [frm, List.foldl, List.replicate, List.set]; obtain ⟨_, hI⟩ := hI; have k6 := keep_cell hI A0; have e11 : u 11 = _ := hR 11 (by decide); rw [e11]; clear hI hst hR; go_wp2; exact ⟨rfl, _, rfl, rfl, rfl⟩
            · refine .inr (Owes.mkG _ _ rfl rfl (fun _ _ h => by cases h) fun u m w' hm hI hR => ⟨⟨(frm 71 [(31, u 12)]).toArray, []⟩, rfl, fun d hd => by cases hd; exact frm_lt (by decide), ?_⟩)
              dsimp only [frm, List.foldl, List.replicate, List.set]
              have e12 : u 12 = _ := hR 12 (by decide)
              have k0 := keep_cell hI D0
              have k1 := keep_cell hI D1
              have k2 := keep_cell hI D2
              have k3 := keep_cell hI D3
              have k4 := keep_cell hI D4
              have k5 := keep_cell hI S2
              have k6 := keep_cell hI A0
              rw [e12]
              clear e12
              have HI := Lib.hid hI
              clear hI hst hR
              go_wp2
              exact ⟨rfl, _, rfl, (by show _ = _; go_num), HI.out, fun _ _ h => h⟩
            · refine .inr (Owes.mkG _ _ rfl rfl (fun _ _ h => by cases h) fun u m w' hm hI hR => ⟨⟨(frm 71 [(25, u 6), (32, u 13)]).toArray, []⟩, rfl, fun d hd => by cases hd; exact frm_lt (by decide), ?_⟩)
              dsimp only [frm, List.foldl, List.replicate, List.set]
              have e6 : u 6 = _ := hR 6 (by decide)
              have e13 : u 13 = _ := hR 13 (by decide)
              have k0 := keep_cell hI D0
              have k1 := keep_cell hI D1
              have k2 := keep_cell hI D2
              have k3 := keep_cell hI D3
              have k4 := keep_cell hI D4
              have k5 := keep_cell hI S2
              have k6 := keep_cell hI A0
              rw [e6, e13]
              clear e6 e13
              have HI := Lib.hid hI
              clear hI hst
              go_wp2_with fail
              refine (l1In_v HN.out _).mono ?_
              rintro e w5 ⟨rfl, rfl⟩
              go_wp2
              exact ⟨rfl, _, rfl, rfl, HI.out, fun _ _ h => h⟩
            · refine .inr (Owes.qG 71 (fun u => [(33, u 14)]) fun u w' hI hR => ?_); dsimp only [frm, List.foldl, List.replicate, List.set]; have e14 : u 14 = _ := hR 14 (by decide); rw [e14]; clear hI hst hR; go_wp2; exact ⟨rfl, _, rfl, rfl, rfl⟩
            · refine .inr (Owes.q 71 (fun u => [(23, u 4), (34, u 15)]) fun u w' hI hR => ?_); dsimp only [frm, List.foldl, List.replicate, List.set]; have e4 : u 4 = _ := hR 4 (by decide); have e15 : u 15 = _ := hR 15 (by decide); rw [e4, e15]; clear hI hst hR; go_wp2; exact ⟨rfl, _, rfl, rfl, rfl⟩
            · refine .inr (Owes.q 71 (fun u => [(35, u 16)]) fun u w' hI hR => ?_); dsimp only [frm, List.foldl, List.replicate, List.set]; have e16 : u 16 = _ := hR 16 (by decide); rw [e16]; clear hI hst hR; go_wp2; exact ⟨rfl, _, rfl, rfl, rfl⟩
            · refine .inr (Owes.q 71 (fun u => [(36, u 17), (40, u 21)]) fun u w' hI hR => ?_); dsimp only [frm, List.foldl, List.replicate, List.set]; have e17 : u 17 = _ := hR 17 (by decide); have e21 : u 21 = _ := hR 21 (by decide); rw [e17, e21]; clear hI hst hR; go_wp2; exact ⟨rfl, _, rfl, rfl, rfl⟩
            · refine .inr (Owes.q 71 (fun u => [(41, u 22)]) fun u w' hI hR => ?_); dsimp only [frm, List.foldl, List.replicate, List.set]; have e22 : u 22 = _ := hR 22 (by decide); rw [e22]; clear hI hst hR; go_wp2; exact ⟨rfl, _, rfl, rfl, rfl⟩
            · refine .inr (Owes.q 71 (fun u => [(42, u 23), (57, u 38)]) fun u w' hI hR => ?_); dsimp only [frm, List.foldl, List.replicate, List.set]; have e23 : u 23 = _ := hR 23 (by decide); have e38 : u 38 = _ := hR 38 (by decide); rw [e23, e38]; clear hI hst hR; go_wp2; exact ⟨rfl, _, rfl, rfl, rfl⟩
            · refine .inr (Owes.q 71 (fun u => [(58, u 39)]) fun u w' hI hR => ?_); dsimp only [frm, List.foldl, List.replicate, List.set]; have e39 : u 39 = _ := hR 39 (by decide); rw [e39]; clear hI hst hR; go_wp2; exact ⟨rfl, _, rfl, rfl, rfl⟩
          case hend =>
            intro u w' hI hR
            simp only [setAll, List.set_cons_zero, List.set_cons_succ]
            have e40 : u 40 = _ := hR 40 (by decide)
            rw [e40]
            clear e40
            have HB5 := Lib.hid (B4.out.trans (hI.mono B4.out.size))
            clear hR hst hI D0 D1 D2 D3 D4 S2 A0
            go_wp2
            go_ret
            exact ⟨ret_bool (told_no1 hL HNo.out).symm, HB5.out⟩
        · have hn2 := inB_true.1 hbn
          obtain ⟨ii, rfl⟩ := Int.eq_ofNat_of_zero_le hn2.1
          have hil : ii < c.progs[uu].length := by omega
          have X2 := keep_cell b14 HX.out
          have G2k := Lib.hid (SlR.below (slR_fits reqR_fits) G2.out b14)
          obtain ⟨_, _, _, ep, -, -, -, -, rp⟩ := G2k.out.opened
          cases ep
          obtain ⟨_, pb, po, fq, cs, rfl, -, -, -, ⟨y, rfl, hy⟩, ep⟩ := rp uu (by rw [← hpn.out]; exact hu4)
          have Y0 := ep 0 (by simp)
          simp only [Nat.mul_one, Nat.add_zero, List.getElem_cons_zero] at Y0
          obtain ⟨a3, rn, rc, rfl, hrn, -, -, -, rr⟩ := hy.opened
          obtain ⟨_, rb, ro, _, cs, rfl, -, -, -, ⟨_, _, _, _, rfl, _, _, _⟩, er⟩ := rr ii (by rw [← hrn.out]; exact hil)
          have Z0 := er 0 (by simp)
          simp only [Nat.add_zero, List.getElem_cons_zero] at Z0
          have HId : Hid (idAt c uu ii = c.progs[uu][ii].id) := Lib.hid (idAt_at hu4 hil)
          obtain ⟨rid, hrid⟩ : ∃ z, c.progs[uu][ii].id = z := ⟨_, rfl⟩
          rw [hrid] at Z0 HId
          have hup : (uu : Int) < (pn : Int) := by have := hpn.out; omega
          have hir : (ii : Int) < (rn : Int) := by have := hrn.out; omega
          have HFit : Hid (∀ (x : Rsp), jobGood c asked true ⟨uu, ii, x⟩ = (true && jobCame c true ⟨uu, ii, x⟩)) := Lib.hid (fun x => by unfold jobGood; rw [HU.out, HN.out])
          obtain ⟨ft, gt, -⟩ := (SlR.below jobR_fits G.out b14).take k (by omega)
          have GT4 := Lib.hid gt
          obtain ⟨b0, h0⟩ : ∃ z, rspOk ⟨ji, jc, jd⟩ = z := ⟨_, rfl⟩
          obtain ⟨b1, h1⟩ : ∃ z, (ji == rid) = z := ⟨_, rfl⟩
          have HRk := Lib.hid h0
          have t1 : (ji != rid) = !b1 := by rw [← h1]; rfl
          have HCm : Hid (jobCame c true ⟨uu, ii, ⟨ji, jc, jd⟩⟩ = (b0 && b1)) := Lib.hid (by unfold jobCame; rw [HId.out, ← h0, ← h1]; rfl)
          clear rp ep hy rr er hrid hbn hn2 G2k Gak b14 hb1 gt h0 h1
          cases b0
          · have HNo : Hid (jobGood c asked true l[k] = false) := Lib.hid (by rw [HJ.out, HFit.out, HCm.out]; rfl)
            have hst : ∀ F, F ∈ [FEq (.pointer (some ⟨bj, 0, none⟩)), FEq (.int .i64 (uu : Int)), FEq (.bool true), FEq (.bool false), FEq (.bool false), FEq (.pointer (some ⟨bj, 1, none⟩)), FEq (.int .i64 (ii : Int)), FEq (.pointer (some ⟨w.heap.size + 1, 2, none⟩)), FEq (.slice (some ⟨ab, ao, none⟩) an ac), FEq (.pointer (some ⟨bj, 0, none⟩)), FEq (.int .i64 (uu : Int)), FEq (.pointer (some ⟨ab, ao + uu, none⟩)), FEq (.int .i64 au), FEq (.int .i64 (au - 1)), FEq (.bool true), FEq (.bool false), FEq (.bool false), FEq (.bool false), FEq (.pointer (some ⟨bj, 2, none⟩)), FEq (.agg #[.int .i64 ji, .int .i64 jc, .slice dva dvn dvc]), FEq (.bool false), FEq (.bool true), FEq (.bool true), FEq (.bool true), FEq undef, FEq undef, FEq undef, FEq undef, FEq undef, FEq undef, FEq undef, FEq undef, FEq undef, FEq undef, FEq undef, FEq undef, FEq undef, FEq undef, FEq undef, FEq (.bool true), FEq (.bool true), FEq undef, FEq undef, FEq undef, FEq undef, FEq undef, FEq undef, FEq undef, FEq undef, FEq undef, FEq undef] → Stable [] F := by
              simp only [List.forall_mem_cons]
              exact ⟨stEq _ _, stEq _ _, stEq _ _, stEq _ _, stEq _ _, stEq _ _, stEq _ _, stEq _ _, stEq _ _, stEq _ _, stEq _ _, stEq _ _, stEq _ _, stEq _ _, stEq _ _, stEq _ _, stEq _ _, stEq _ _, stEq _ _, stEq _ _, stEq _ _, stEq _ _, stEq _ _, stEq _ _, stEq _ _, stEq _ _, stEq _ _, stEq _ _, stEq _ _, stEq _ _, stEq _ _, stEq _ _, stEq _ _, stEq _ _, stEq _ _, stEq _ _, stEq _ _, stEq _ _, stEq _ _, stEq _ _, stEq _ _, stEq _ _, stEq _ _, stEq _ _, stEq _ _, stEq _ _, stEq _ _, stEq _ _, stEq _ _, stEq _ _, stEq _ _, fun _ h => by simp at h⟩
            refine wp_region_skip (by kernel_rfl) (fun i => (tbl5Told5 : List (List Nat)).getD i []) (facts [FEq (.pointer (some ⟨bj, 0, none⟩)), FEq (.int .i64 (uu : Int)), FEq (.bool true), FEq (.bool false), FEq (.bool false), FEq (.pointer (some ⟨bj, 1, none⟩)), FEq (.int .i64 (ii : Int)), FEq (.pointer (some ⟨w.heap.size + 1, 2, none⟩)), FEq (.slice (some ⟨ab, ao, none⟩) an ac), FEq (.pointer (some ⟨bj, 0, none⟩)), FEq (.int .i64 (uu : Int)), FEq (.pointer (some ⟨ab, ao + uu, none⟩)), FEq (.int .i64 au), FEq (.int .i64 (au - 1)), FEq (.bool true), FEq (.bool false), FEq (.bool false), FEq (.bool false), FEq (.pointer (some ⟨bj, 2, none⟩)), FEq (.agg #[.int .i64 ji, .int .i64 jc, .slice dva dvn dvc]), FEq (.bool false), FEq (.bool true), FEq (.bool true), FEq (.bool true), FEq undef, FEq undef, FEq undef, FEq undef, FEq undef, FEq undef, FEq undef, FEq undef, FEq undef, FEq undef, FEq undef, FEq undef, FEq undef, FEq undef, FEq undef, FEq (.bool true), FEq (.bool true), FEq undef, FEq undef, FEq undef, FEq undef, FEq undef, FEq undef, FEq undef, FEq undef, FEq undef, FEq undef]) (fun m w' => Below w4.heap.size w4 w') 71 52 51 [some 19, some 20, some 21, some 22, some 23, some 24, some 25, some 26, some 27, some 28, some 29, some 30, some 31, some 32, some 33, some 34, some 35, some 36, some 37, some 38, some 39, some 40, some 41, some 42, some 43, some 44, some 45, some 46, some 47, some 48, some 49, some 50, some 51, some 52, some 53, some 54, some 55, some 56, some 57, some 58, some 59, some 60, some 61, some 62, some 63, some 64, some 65, some 66, some 67, some 68, some 69] _ rfl rfl (by decide) rfl rfl (by kernel_rfl) (by kernel_rfl) [24, 25, 26, 27, 28, 29, 30, 31, 32, 33, 34, 35, 36, 37, 38, 41, 42, 43, 44, 45, 46, 47, 48, 49, 50] [(17, false), (23, true), (4, false), (40, true)] (by kernel_rfl) (fun g b hm v w h => by simp only [List.mem_cons, List.not_mem_nil, or_false, Prod.mk.injEq] at hm; rcases hm with ⟨rfl, rfl⟩ | ⟨rfl, rfl⟩ | ⟨rfl, rfl⟩ | ⟨rfl, rfl⟩ <;> exact h) (fun i hi w => by simp only [List.mem_cons, List.not_mem_nil, or_false] at hi; rcases hi with rfl | rfl | rfl | rfl | rfl | rfl | rfl | rfl | rfl | rfl | rfl | rfl | rfl | rfl | rfl | rfl | rfl | rfl | rfl | rfl | rfl | rfl | rfl | rfl | rfl <;> rfl) (fun _ _ h => h) ?h0 (all_lt (n := 51) ?hop) ?hend
            case h0 => exact (Below.refl _ _).drew
            case hop =>
              refine ⟨⟨⟨⟨⟨⟨⟨⟨⟨⟨⟨⟨⟨⟨⟨⟨⟨⟨⟨⟨⟨⟨⟨⟨⟨⟨⟨⟨⟨⟨⟨⟨⟨⟨⟨⟨⟨⟨⟨⟨⟨⟨⟨⟨⟨⟨⟨⟨⟨⟨⟨trivial, ?_⟩, ?_⟩, ?_⟩, ?_⟩, ?_⟩, ?_⟩, ?_⟩, ?_⟩, ?_⟩, ?_⟩, ?_⟩, ?_⟩, ?_⟩, ?_⟩, ?_⟩, ?_⟩, ?_⟩, ?_⟩, ?_⟩, ?_⟩, ?_⟩, ?_⟩, ?_⟩, ?_⟩, ?_⟩, ?_⟩, ?_⟩, ?_⟩, ?_⟩, ?_⟩, ?_⟩, ?_⟩, ?_⟩, ?_⟩, ?_⟩, ?_⟩, ?_⟩, ?_⟩, ?_⟩, ?_⟩, ?_⟩, ?_⟩, ?_⟩, ?_⟩, ?_⟩, ?_⟩, ?_⟩, ?_⟩, ?_⟩, ?_⟩, ?_⟩
              all_goals first | exact .inl (by decide) | skip
              · refine .inr (Owes.q 71 (fun u => [(6, .pointer (some ⟨bj, 0, none⟩))]) fun u w' hI hR => ?_); dsimp only [frm, List.foldl, List.replicate, List.set]; clear hI hst hR; go_wp2; exact ⟨rfl, _, rfl, rfl, rfl⟩
              · refine .inr (Owes.q 71 (fun u => [(19, u 0)]) fun u w' hI hR => ?_); dsimp only [frm, List.foldl, List.replicate, List.set]; obtain ⟨_, hI⟩ := hI; have k0 := keep_cell hI D0; have e0 : u 0 = _ := hR 0 (by decide); rw [e0]; clear hI hst hR; go_wp2; exact ⟨rfl, _, rfl, rfl, rfl⟩
              · refine .inr (Owes.mk _ rfl rfl (fun _ _ h => by cases h) fun u m w' hm hI hR => ⟨⟨(frm 71 [(20, u 1)]).toArray, []⟩, rfl, fun d hd => by cases hd; exact frm_lt (by decide), ?_⟩)
                dsimp only [frm, List.foldl, List.replicate, List.set]
                have e1 : u 1 = _ := hR 1 (by decide)
                have k0 := keep_cell hI D0
                have k1 := keep_cell hI D1
                have k2 := keep_cell hI D2
                have k3 := keep_cell hI D3
                have k4 := keep_cell hI D4
                have k5 := keep_cell hI S2
                have k6 := keep_cell hI A0
                rw [e1]
                clear e1
                have HI := Lib.hid hI
                clear hI hst
                go_wp2_with fail
                refine (l1In_v HWho.out _).mono ?_
                rintro e w5 ⟨rfl, rfl⟩
                go_wp2
                exact ⟨rfl, _, rfl, rfl, HI.out, fun _ _ h => h⟩
              · refine .inr (Owes.q 71 (fun u => [(21, u 2)]) fun u w' hI hR => ?_); dsimp only [frm, List.foldl, List.replicate, List.set]; have e2 : u 2 = _ := hR 2 (by decide); rw [e2]; clear hI hst hR; go_wp2; exact ⟨rfl, _, rfl, rfl, rfl⟩
              · refine .inr (Owes.q 71 (fun u => [(22, u 3)]) fun u w' hI hR => ?_); dsimp only [frm, List.foldl, List.replicate, List.set]; have e3 : u 3 = _ := hR 3 (by decide); rw [e3]; clear hI hst hR; go_wp2; exact ⟨rfl, _, rfl, rfl, rfl⟩
              · refine .inr (Owes.qG 71 (fun u => [(6, .pointer (some ⟨bj, 0, none⟩))]) fun u w' hI hR => ?_); dsimp only [frm, List.foldl, List.replicate, List.set]; clear hI hst hR; go_wp2; exact ⟨rfl, _, rfl, rfl, rfl⟩
              · refine .inr (Owes.qG 71 (fun u => [(24, u 5)]) fun u w' hI hR => ?_); dsimp only [frm, List.foldl, List.replicate, List.set]; obtain ⟨_, hI⟩ := hI; have k1 := keep_cell hI D1; have e5 : u 5 = _ := hR 5 (by decide); rw [e5]; clear hI hst hR; go_wp2; exact ⟨rfl, _, rfl, rfl, rfl⟩
              · refine .inr (Owes.qG 71 (fun u => [(3, .pointer (some ⟨w.heap.size + 1, 0, none⟩))]) fun u w' hI hR => ?_); dsimp only [frm, List.foldl, List.replicate, List.set]; clear hI hst hR; go_wp2; exact ⟨rfl, _, rfl, rfl, rfl⟩
              · refine .inr (Owes.qG 71 (fun u => [(26, u 7)]) fun u w' hI hR => ?_); dsimp only [frm, List.foldl, List.replicate, List.set]; obtain ⟨_, hI⟩ := hI; have k5 := keep_cell hI S2; have e7 : u 7 = _ := hR 7 (by decide); rw [e7]; clear hI hst hR; go_wp2; exact ⟨rfl, _, rfl, rfl, rfl⟩
              · refine .inr (Owes.qG 71 (fun u => [(6, .pointer (some ⟨bj, 0, none⟩))]) fun u w' hI hR => ?_); dsimp only [frm, List.foldl, List.replicate, List.set]; clear hI hst hR; go_wp2; exact ⟨rfl, _, rfl, rfl, rfl⟩
              · refine .inr (Owes.qG 71 (fun u => [(28, u 9)]) fun u w' hI hR => ?_); dsimp only [frm, List.foldl, List.replicate, List.set]; obtain ⟨_, hI⟩ := hI; have k0 := keep_cell hI D0; have e9 : u 9 = _ := hR 9 (by decide); rw [e9]; clear hI hst hR; go_wp2; exact ⟨rfl, _, rfl, rfl, rfl⟩
              · refine .inr (Owes.qG 71 (fun u => [(27, u 8), (29, u 10)]) fun u w' hI hR => ?_); dsimp only [frm, List.foldl, List.replicate, List.set]; have e8 : u 8 = _ := hR 8 (by decide); have e10 : u 10 = _ := hR 10 (by decide); rw [e8, e10]; clear hI hst hR; go_wp2; exact ⟨rfl, _, rfl, rfl, rfl⟩
              · refine .inr (Owes.qG 71 (fun u => [(30, u 11)]) fun u w' hI hR => ?_); dsimp only [frm, List.foldl, List.replicate, List.set]; obtain ⟨_, hI⟩ := hI; have k6 := keep_cell hI A0; have e11 : u 11 = _ := hR 11 (by decide); rw [e11]; clear hI hst hR; go_wp2; exact ⟨rfl, _, rfl, rfl, rfl⟩
              · refine .inr (Owes.mkG _ _ rfl rfl (fun _ _ h => by cases h) fun u m w' hm hI hR => ⟨⟨(frm 71 [(31, u 12)]).toArray, []⟩, rfl, fun d hd => by cases hd; exact frm_lt (by decide), ?_⟩)
                dsimp only [frm, List.foldl, List.replicate, List.set]
                have e12 : u 12 = _ := hR 12 (by decide)
                have k0 := keep_cell hI D0
                have k1 := keep_cell hI D1
                have k2 := keep_cell hI D2
                have k3 := keep_cell hI D3
                have k4 := keep_cell hI D4
                have k5 := keep_cell hI S2
                have k6 := keep_cell hI A0
                rw [e12]
                clear e12
                have HI := Lib.hid hI
                clear hI hst hR
                go_wp2
                exact ⟨rfl, _, rfl, (by show _ = _; go_num), HI.out, fun _ _ h => h⟩
              · refine .inr (Owes.mkG _ _ rfl rfl (fun _ _ h => by cases h) fun u m w' hm hI hR => ⟨⟨(frm 71 [(25, u 6), (32, u 13)]).toArray, []⟩, rfl, fun d hd => by cases hd; exact frm_lt (by decide), ?_⟩)
                dsimp only [frm, List.foldl, List.replicate, List.set]
                have e6 : u 6 = _ := hR 6 (by decide)
                have e13 : u 13 = _ := hR 13 (by decide)
                have k0 := keep_cell hI D0
                have k1 := keep_cell hI D1
                have k2 := keep_cell hI D2
                have k3 := keep_cell hI D3
                have k4 := keep_cell hI D4
                have k5 := keep_cell hI S2
                have k6 := keep_cell hI A0
                rw [e6, e13]
                clear e6 e13
                have HI := Lib.hid hI
                clear hI hst
                go_wp2_with fail
                refine (l1In_v HN.out _).mono ?_
                rintro e w5 ⟨rfl, rfl⟩
                go_wp2
                exact ⟨rfl, _, rfl, rfl, HI.out, fun _ _ h => h⟩
              · refine .inr (Owes.qG 71 (fun u => [(33, u 14)]) fun u w' hI hR => ?_); dsimp only [frm, List.foldl, List.replicate, List.set]; have e14 : u 14 = _ := hR 14 (by decide); rw [e14]; clear hI hst hR; go_wp2; exact ⟨rfl, _, rfl, rfl, rfl⟩
              · refine .inr (Owes.q 71 (fun u => [(23, u 4), (34, u 15)]) fun u w' hI hR => ?_); dsimp only [frm, List.foldl, List.replicate, List.set]; have e4 : u 4 = _ := hR 4 (by decide); have e15 : u 15 = _ := hR 15 (by decide); rw [e4, e15]; clear hI hst hR; go_wp2; exact ⟨rfl, _, rfl, rfl, rfl⟩
              · refine .inr (Owes.q 71 (fun u => [(35, u 16)]) fun u w' hI hR => ?_); dsimp only [frm, List.foldl, List.replicate, List.set]; have e16 : u 16 = _ := hR 16 (by decide); rw [e16]; clear hI hst hR; go_wp2; exact ⟨rfl, _, rfl, rfl, rfl⟩
              · refine .inr (Owes.qG 71 (fun u => [(6, .pointer (some ⟨bj, 0, none⟩))]) fun u w' hI hR => ?_); dsimp only [frm, List.foldl, List.replicate, List.set]; clear hI hst hR; go_wp2; exact ⟨rfl, _, rfl, rfl, rfl⟩
              · refine .inr (Owes.qG 71 (fun u => [(37, u 18)]) fun u w' hI hR => ?_); dsimp only [frm, List.foldl, List.replicate, List.set]; obtain ⟨_, hI⟩ := hI; have k2 := keep_cell hI D2; have k3 := keep_cell hI D3; have k4 := keep_cell hI D4; have e18 : u 18 = _ := hR 18 (by decide); rw [e18]; clear hI hst hR; go_wp2; exact ⟨rfl, _, rfl, rfl, rfl⟩
              · refine .inr (Owes.mkG _ _ rfl rfl (fun _ _ h => by cases h) fun u m w' hm hI hR => ⟨⟨(frm 71 [(38, u 19)]).toArray, []⟩, rfl, fun d hd => by cases hd; exact frm_lt (by decide), ?_⟩)
                dsimp only [frm, List.foldl, List.replicate, List.set]
                have e19 : u 19 = _ := hR 19 (by decide)
                have k0 := keep_cell hI D0
                have k1 := keep_cell hI D1
                have k2 := keep_cell hI D2
                have k3 := keep_cell hI D3
                have k4 := keep_cell hI D4
                have k5 := keep_cell hI S2
                have k6 := keep_cell hI A0
                rw [e19]
                clear e19
                have GD6 := Lib.hid (SlR.below intR_fits GD4.out hI)
                have HI := Lib.hid hI
                clear hI hR
                go_wp2_with fail
                refine (sRspOk_any ⟨ji, jc, jd⟩ _ df _ GD6.out).mono ?_
                rw [HRk.out]
                rintro e w5 ⟨rfl, b5⟩
                have HS5 := Lib.hid (facts_stable hst (b5.chg []))
                have HI5 := Lib.hid (HI.out.trans (b5.mono HI.out.size))
                clear b5 hst
                go_wp2
                exact ⟨rfl, _, rfl, rfl, HI5.out, HS5.out⟩
              · refine .inr (Owes.qG 71 (fun u => [(39, u 20)]) fun u w' hI hR => ?_); dsimp only [frm, List.foldl, List.replicate, List.set]; have e20 : u 20 = _ := hR 20 (by decide); rw [e20]; clear hI hst hR; go_wp2; exact ⟨rfl, _, rfl, rfl, rfl⟩
              · refine .inr (Owes.q 71 (fun u => [(36, u 17), (40, u 21)]) fun u w' hI hR => ?_); dsimp only [frm, List.foldl, List.replicate, List.set]; have e17 : u 17 = _ := hR 17 (by decide); have e21 : u 21 = _ := hR 21 (by decide); rw [e17, e21]; clear hI hst hR; go_wp2; exact ⟨rfl, _, rfl, rfl, rfl⟩
              · refine .inr (Owes.q 71 (fun u => [(41, u 22)]) fun u w' hI hR => ?_); dsimp only [frm, List.foldl, List.replicate, List.set]; have e22 : u 22 = _ := hR 22 (by decide); rw [e22]; clear hI hst hR; go_wp2; exact ⟨rfl, _, rfl, rfl, rfl⟩
              · refine .inr (Owes.q 71 (fun u => [(42, u 23), (57, u 38)]) fun u w' hI hR => ?_); dsimp only [frm, List.foldl, List.replicate, List.set]; have e23 : u 23 = _ := hR 23 (by decide); have e38 : u 38 = _ := hR 38 (by decide); rw [e23, e38]; clear hI hst hR; go_wp2; exact ⟨rfl, _, rfl, rfl, rfl⟩
              · refine .inr (Owes.q 71 (fun u => [(58, u 39)]) fun u w' hI hR => ?_); dsimp only [frm, List.foldl, List.replicate, List.set]; have e39 : u 39 = _ := hR 39 (by decide); rw [e39]; clear hI hst hR; go_wp2; exact ⟨rfl, _, rfl, rfl, rfl⟩
            case hend =>
              intro u w' hI hR
              simp only [setAll, List.set_cons_zero, List.set_cons_succ]
              have e40 : u 40 = _ := hR 40 (by decide)
              rw [e40]
              clear e40
              have HB5 := Lib.hid (B4.out.trans (hI.mono B4.out.size))
              clear hR hst hI D0 D1 D2 D3 D4 S2 A0 X2 Y0 Z0 S5
              go_wp2
              go_ret
              exact ⟨ret_bool (told_no1 hL HNo.out).symm, HB5.out⟩
          · cases b1
            · have HNo : Hid (jobGood c asked true l[k] = false) := Lib.hid (by rw [HJ.out, HFit.out, HCm.out]; rfl)
              have hst : ∀ F, F ∈ [FEq (.pointer (some ⟨bj, 0, none⟩)), FEq (.int .i64 (uu : Int)), FEq (.bool true), FEq (.bool false), FEq (.bool false), FEq (.pointer (some ⟨bj, 1, none⟩)), FEq (.int .i64 (ii : Int)), FEq (.pointer (some ⟨w.heap.size + 1, 2, none⟩)), FEq (.slice (some ⟨ab, ao, none⟩) an ac), FEq (.pointer (some ⟨bj, 0, none⟩)), FEq (.int .i64 (uu : Int)), FEq (.pointer (some ⟨ab, ao + uu, none⟩)), FEq (.int .i64 au), FEq (.int .i64 (au - 1)), FEq (.bool true), FEq (.bool false), FEq (.bool false), FEq (.bool false), FEq (.pointer (some ⟨bj, 2, none⟩)), FEq (.agg #[.int .i64 ji, .int .i64 jc, .slice dva dvn dvc]), FEq (.bool true), FEq (.bool false), FEq (.bool false), FEq (.bool false), FEq (.pointer (some ⟨bj, 2, none⟩)), FEq (.pointer (some ⟨bj, 2, none⟩)), FEq (.int .i64 ji), FEq (.pointer (some ⟨w.heap.size, 2, none⟩)), FEq (.slice (some ⟨pb, po, none⟩) pn pc), FEq (.pointer (some ⟨bj, 0, none⟩)), FEq (.int .i64 (uu : Int)), FEq (.pointer (some ⟨pb, po + uu, none⟩)), FEq (.slice (some ⟨rb, ro, none⟩) rn rc), FEq (.pointer (some ⟨bj, 1, none⟩)), FEq (.int .i64 (ii : Int)), FEq (.pointer (some ⟨rb, ro + ii * 7, none⟩)), FEq (.pointer (some ⟨rb, ro + ii * 7, none⟩)), FEq (.int .i64 rid), FEq (.bool true), FEq (.bool true), FEq (.bool true), FEq undef, FEq undef, FEq undef, FEq undef, FEq undef, FEq undef, FEq undef, FEq undef, FEq undef, FEq undef] → Stable [] F := by
                simp only [List.forall_mem_cons]
                exact ⟨stEq _ _, stEq _ _, stEq _ _, stEq _ _, stEq _ _, stEq _ _, stEq _ _, stEq _ _, stEq _ _, stEq _ _, stEq _ _, stEq _ _, stEq _ _, stEq _ _, stEq _ _, stEq _ _, stEq _ _, stEq _ _, stEq _ _, stEq _ _, stEq _ _, stEq _ _, stEq _ _, stEq _ _, stEq _ _, stEq _ _, stEq _ _, stEq _ _, stEq _ _, stEq _ _, stEq _ _, stEq _ _, stEq _ _, stEq _ _, stEq _ _, stEq _ _, stEq _ _, stEq _ _, stEq _ _, stEq _ _, stEq _ _, stEq _ _, stEq _ _, stEq _ _, stEq _ _, stEq _ _, stEq _ _, stEq _ _, stEq _ _, stEq _ _, stEq _ _, fun _ h => by simp at h⟩
              refine wp_region_skip (by kernel_rfl) (fun i => (tbl5Told5 : List (List Nat)).getD i []) (facts [FEq (.pointer (some ⟨bj, 0, none⟩)), FEq (.int .i64 (uu : Int)), FEq (.bool true), FEq (.bool false), FEq (.bool false), FEq (.pointer (some ⟨bj, 1, none⟩)), FEq (.int .i64 (ii : Int)), FEq (.pointer (some ⟨w.heap.size + 1, 2, none⟩)), FEq (.slice (some ⟨ab, ao, none⟩) an ac), FEq (.pointer (some ⟨bj, 0, none⟩)), FEq (.int .i64 (uu : Int)), FEq (.pointer (some ⟨ab, ao + uu, none⟩)), FEq (.int .i64 au), FEq (.int .i64 (au - 1)), FEq (.bool true), FEq (.bool false), FEq (.bool false), FEq (.bool false), FEq (.pointer (some ⟨bj, 2, none⟩)), FEq (.agg #[.int .i64 ji, .int .i64 jc, .slice dva dvn dvc]), FEq (.bool true), FEq (.bool false), FEq (.bool false), FEq (.bool false), FEq (.pointer (some ⟨bj, 2, none⟩)), FEq (.pointer (some ⟨bj, 2, none⟩)), FEq (.int .i64 ji), FEq (.pointer (some ⟨w.heap.size, 2, none⟩)), FEq (.slice (some ⟨pb, po, none⟩) pn pc), FEq (.pointer (some ⟨bj, 0, none⟩)), FEq (.int .i64 (uu : Int)), FEq (.pointer (some ⟨pb, po + uu, none⟩)), FEq (.slice (some ⟨rb, ro, none⟩) rn rc), FEq (.pointer (some ⟨bj, 1, none⟩)), FEq (.int .i64 (ii : Int)), FEq (.pointer (some ⟨rb, ro + ii * 7, none⟩)), FEq (.pointer (some ⟨rb, ro + ii * 7, none⟩)), FEq (.int .i64 rid), FEq (.bool true), FEq (.bool true), FEq (.bool true), FEq undef, FEq undef, FEq undef, FEq undef, FEq undef, FEq undef, FEq undef, FEq undef, FEq undef, FEq undef]) (fun m w' => Below w4.heap.size w4 w') 71 52 51 [some 19, some 20, some 21, some 22, some 23, some 24, some 25, some 26, some 27, some 28, some 29, some 30, some 31, some 32, some 33, some 34, some 35, some 36, some 37, some 38, some 39, some 40, some 41, some 42, some 43, some 44, some 45, some 46, some 47, some 48, some 49, some 50, some 51, some 52, some 53, some 54, some 55, some 56, some 57, some 58, some 59, some 60, some 61, some 62, some 63, some 64, some 65, some 66, some 67, some 68, some 69] _ rfl rfl (by decide) rfl rfl (by kernel_rfl) (by kernel_rfl) [41, 42, 43, 44, 45, 46, 47, 48, 49, 50] [(17, false), (23, false), (4, false), (40, true)] (by kernel_rfl) (fun g b hm v w h => by simp only [List.mem_cons, List.not_mem_nil, or_false, Prod.mk.injEq] at hm; rcases hm with ⟨rfl, rfl⟩ | ⟨rfl, rfl⟩ | ⟨rfl, rfl⟩ | ⟨rfl, rfl⟩ <;> exact h) (fun i hi w => by simp only [List.mem_cons, List.not_mem_nil, or_false] at hi; rcases hi with rfl | rfl | rfl | rfl | rfl | rfl | rfl | rfl | rfl | rfl <;> rfl) (fun _ _ h => h) ?h0 (all_lt (n := 51) ?hop) ?hend
              case h0 => exact (Below.refl _ _).drew
              case hop =>
                refine ⟨⟨⟨⟨⟨⟨⟨⟨⟨⟨⟨⟨⟨⟨⟨⟨⟨⟨⟨⟨⟨⟨⟨⟨⟨⟨⟨⟨⟨⟨⟨⟨⟨⟨⟨⟨⟨⟨⟨⟨⟨⟨⟨⟨⟨⟨⟨⟨⟨⟨⟨trivial, ?_⟩, ?_⟩, ?_⟩, ?_⟩, ?_⟩, ?_⟩, ?_⟩, ?_⟩, ?_⟩, ?_⟩, ?_⟩, ?_⟩, ?_⟩, ?_⟩, ?_⟩, ?_⟩, ?_⟩, ?_⟩, ?_⟩, ?_⟩, ?_⟩, ?_⟩, ?_⟩, ?_⟩, ?_⟩, ?_⟩, ?_⟩, ?_⟩, ?_⟩, ?_⟩, ?_⟩, ?_⟩, ?_⟩, ?_⟩, ?_⟩, ?_⟩, ?_⟩, ?_⟩, ?_⟩, ?_⟩, ?_⟩, ?_⟩, ?_⟩, ?_⟩, ?_⟩, ?_⟩, ?_⟩, ?_⟩, ?_⟩, ?_⟩, ?_⟩
                all_goals first | exact .inl (by decide) | skip
                · refine .inr (Owes.q 71 (fun u => [(6, .pointer (some ⟨bj, 0, none⟩))]) fun u w' hI hR => ?_); dsimp only [frm, List.foldl, List.replicate, List.set]; clear hI hst hR; go_wp2; exact ⟨rfl, _, rfl, rfl, rfl⟩
                · refine .inr (Owes.q 71 (fun u => [(19, u 0)]) fun u w' hI hR => ?_); dsimp only [frm, List.foldl, List.replicate, List.set]; obtain ⟨_, hI⟩ := hI; have k0 := keep_cell hI D0; have e0 : u 0 = _ := hR 0 (by decide); rw [e0]; clear hI hst hR; go_wp2; exact ⟨rfl, _, rfl, rfl, rfl⟩
                · refine .inr (Owes.mk _ rfl rfl (fun _ _ h => by cases h) fun u m w' hm hI hR => ⟨⟨(frm 71 [(20, u 1)]).toArray, []⟩, rfl, fun d hd => by cases hd; exact frm_lt (by decide), ?_⟩)
                  dsimp only [frm, List.foldl, List.replicate, List.set]
                  have e1 : u 1 = _ := hR 1 (by decide)
                  have k0 := keep_cell hI D0
                  have k1 := keep_cell hI D1
                  have k2 := keep_cell hI D2
                  have k3 := keep_cell hI D3
                  have k4 := keep_cell hI D4
                  have k5 := keep_cell hI S2
                  have k6 := keep_cell hI A0
                  have k7 := keep_cell hI X2
                  have k8 := keep_cell hI Y0
                  have k9 := keep_cell hI Z0
                  rw [e1]
                  clear e1
                  have HI := Lib.hid hI
                  clear hI hst
                  go_wp2_with fail
                  refine (l1In_v HWho.out _).mono ?_
                  rintro e w5 ⟨rfl, rfl⟩
                  go_wp2
                  exact ⟨rfl, _, rfl, rfl, HI.out, fun _ _ h => h⟩
                · refine .inr (Owes.q 71 (fun u => [(21, u 2)]) fun u w' hI hR => ?_); dsimp only [frm, List.foldl, List.replicate, List.set]; have e2 : u 2 = _ := hR 2 (by decide); rw [e2]; clear hI hst hR; go_wp2; exact ⟨rfl, _, rfl, rfl, rfl⟩
                · refine .inr (Owes.q 71 (fun u => [(22, u 3)]) fun u w' hI hR => ?_); dsimp only [frm, List.foldl, List.replicate, List.set]; have e3 : u 3 = _ := hR 3 (by decide); rw [e3]; clear hI hst hR; go_wp2; exact ⟨rfl, _, rfl, rfl, rfl⟩
                · refine .inr (Owes.qG 71 (fun u => [(6, .pointer (some ⟨bj, 0, none⟩))]) fun u w' hI hR => ?_); dsimp only [frm, List.foldl, List.replicate, List.set]; clear hI hst hR; go_wp2; exact ⟨rfl, _, rfl, rfl, rfl⟩
                · refine .inr (Owes.qG 71 (fun u => [(24, u 5)]) fun u w' hI hR => ?_); dsimp only [frm, List.foldl, List.replicate, List.set]; obtain ⟨_, hI⟩ := hI; have k1 := keep_cell hI D1; have e5 : u 5 = _ := hR 5 (by decide); rw [e5]; clear hI hst hR; go_wp2; exact ⟨rfl, _, rfl, rfl, rfl⟩
                · refine .inr (Owes.qG 71 (fun u => [(3, .pointer (some ⟨w.heap.size + 1, 0, none⟩))]) fun u w' hI hR => ?_); dsimp only [frm, List.foldl, List.replicate, List.set]; clear hI hst hR; go_wp2; exact ⟨rfl, _, rfl, rfl, rfl⟩
                · refine .inr (Owes.qG 71 (fun u => [(26, u 7)]) fun u w' hI hR => ?_); dsimp only [frm, List.foldl, List.replicate, List.set]; obtain ⟨_, hI⟩ := hI; have k5 := keep_cell hI S2; have e7 : u 7 = _ := hR 7 (by decide); rw [e7]; clear hI hst hR; go_wp2; exact ⟨rfl, _, rfl, rfl, rfl⟩
                · refine .inr (Owes.qG 71 (fun u => [(6, .pointer (some ⟨bj, 0, none⟩))]) fun u w' hI hR => ?_); dsimp only [frm, List.foldl, List.replicate, List.set]; clear hI hst hR; go_wp2; exact ⟨rfl, _, rfl, rfl, rfl⟩
                · refine .inr (Owes.qG 71 (fun u => [(28, u 9)]) fun u w' hI hR => ?_); dsimp only [frm, List.foldl, List.replicate, List.set]; obtain ⟨_, hI⟩ := hI; have k0 := keep_cell hI D0; have e9 : u 9 = _ := hR 9 (by decide); rw [e9]; clear hI hst hR; go_wp2; exact ⟨rfl, _, rfl, rfl, rfl⟩
                · refine .inr (Owes.qG 71 (fun u => [(27, u 8), (29, u 10)]) fun u w' hI hR => ?_); dsimp only [frm, List.foldl, List.replicate, List.set]; have e8 : u 8 = _ := hR 8 (by decide); have e10 : u 10 = _ := hR 10 (by decide); rw [e8, e10]; clear hI hst hR; go_wp2; exact ⟨rfl, _, rfl, rfl, rfl⟩
                · refine .inr (Owes.qG 71 (fun u => [(30, u 11)]) fun u w' hI hR => ?_); dsimp only [frm, List.foldl, List.replicate, List.set]; obtain ⟨_, hI⟩ := hI; have k6 := keep_cell hI A0; have e11 : u 11 = _ := hR 11 (by decide); rw [e11]; clear hI hst hR; go_wp2; exact ⟨rfl, _, rfl, rfl, rfl⟩
                · refine .inr (Owes.mkG _ _ rfl rfl (fun _ _ h => by cases h) fun u m w' hm hI hR => ⟨⟨(frm 71 [(31, u 12)]).toArray, []⟩, rfl, fun d hd => by cases hd; exact frm_lt (by decide), ?_⟩)
                  dsimp only [frm, List.foldl, List.replicate, List.set]
                  have e12 : u 12 = _ := hR 12 (by decide)
                  have k0 := keep_cell hI D0
                  have k1 := keep_cell hI D1
                  have k2 := keep_cell hI D2
                  have k3 := keep_cell hI D3
                  have k4 := keep_cell hI D4
                  have k5 := keep_cell hI S2
                  have k6 := keep_cell hI A0
                  have k7 := keep_cell hI X2
                  have k8 := keep_cell hI Y0
                  have k9 := keep_cell hI Z0
                  rw [e12]
                  clear e12
                  have HI := Lib.hid hI
                  clear hI hst hR
                  go_wp2
                  exact ⟨rfl, _, rfl, (by show _ = _; go_num), HI.out, fun _ _ h => h⟩
                · refine .inr (Owes.mkG _ _ rfl rfl (fun _ _ h => by cases h) fun u m w' hm hI hR => ⟨⟨(frm 71 [(25, u 6), (32, u 13)]).toArray, []⟩, rfl, fun d hd => by cases hd; exact frm_lt (by decide), ?_⟩)
                  dsimp only [frm, List.foldl, List.replicate, List.set]
                  have e6 : u 6 = _ := hR 6 (by decide)
                  have e13 : u 13 = _ := hR 13 (by decide)
                  have k0 := keep_cell hI D0
                  have k1 := keep_cell hI D1
                  have k2 := keep_cell hI D2
                  have k3 := keep_cell hI D3
                  have k4 := keep_cell hI D4
                  have k5 := keep_cell hI S2
                  have k6 := keep_cell hI A0
                  have k7 := keep_cell hI X2
                  have k8 := keep_cell hI Y0
                  have k9 := keep_cell hI Z0
                  rw [e6, e13]
                  clear e6 e13
                  have HI := Lib.hid hI
                  clear hI hst
                  go_wp2_with fail
                  refine (l1In_v HN.out _).mono ?_
                  rintro e w5 ⟨rfl, rfl⟩
                  go_wp2
                  exact ⟨rfl, _, rfl, rfl, HI.out, fun _ _ h => h⟩
                · refine .inr (Owes.qG 71 (fun u => [(33, u 14)]) fun u w' hI hR => ?_); dsimp only [frm, List.foldl, List.replicate, List.set]; have e14 : u 14 = _ := hR 14 (by decide); rw [e14]; clear hI hst hR; go_wp2; exact ⟨rfl, _, rfl, rfl, rfl⟩
                · refine .inr (Owes.q 71 (fun u => [(23, u 4), (34, u 15)]) fun u w' hI hR => ?_); dsimp only [frm, List.foldl, List.replicate, List.set]; have e4 : u 4 = _ := hR 4 (by decide); have e15 : u 15 = _ := hR 15 (by decide); rw [e4, e15]; clear hI hst hR; go_wp2; exact ⟨rfl, _, rfl, rfl, rfl⟩
                · refine .inr (Owes.q 71 (fun u => [(35, u 16)]) fun u w' hI hR => ?_); dsimp only [frm, List.foldl, List.replicate, List.set]; have e16 : u 16 = _ := hR 16 (by decide); rw [e16]; clear hI hst hR; go_wp2; exact ⟨rfl, _, rfl, rfl, rfl⟩
                · refine .inr (Owes.qG 71 (fun u => [(6, .pointer (some ⟨bj, 0, none⟩))]) fun u w' hI hR => ?_); dsimp only [frm, List.foldl, List.replicate, List.set]; clear hI hst hR; go_wp2; exact ⟨rfl, _, rfl, rfl, rfl⟩
                · refine .inr (Owes.qG 71 (fun u => [(37, u 18)]) fun u w' hI hR => ?_); dsimp only [frm, List.foldl, List.replicate, List.set]; obtain ⟨_, hI⟩ := hI; have k2 := keep_cell hI D2; have k3 := keep_cell hI D3; have k4 := keep_cell hI D4; have e18 : u 18 = _ := hR 18 (by decide); rw [e18]; clear hI hst hR; go_wp2; exact ⟨rfl, _, rfl, rfl, rfl⟩
                · refine .inr (Owes.mkG _ _ rfl rfl (fun _ _ h => by cases h) fun u m w' hm hI hR => ⟨⟨(frm 71 [(38, u 19)]).toArray, []⟩, rfl, fun d hd => by cases hd; exact frm_lt (by decide), ?_⟩)
                  dsimp only [frm, List.foldl, List.replicate, List.set]
                  have e19 : u 19 = _ := hR 19 (by decide)
                  have k0 := keep_cell hI D0
                  have k1 := keep_cell hI D1
                  have k2 := keep_cell hI D2
                  have k3 := keep_cell hI D3
                  have k4 := keep_cell hI D4
                  have k5 := keep_cell hI S2
                  have k6 := keep_cell hI A0
                  have k7 := keep_cell hI X2
                  have k8 := keep_cell hI Y0
                  have k9 := keep_cell hI Z0
                  rw [e19]
                  clear e19
                  have GD6 := Lib.hid (SlR.below intR_fits GD4.out hI)
                  have HI := Lib.hid hI
                  clear hI hR
                  go_wp2_with fail
                  refine (sRspOk_any ⟨ji, jc, jd⟩ _ df _ GD6.out).mono ?_
                  rw [HRk.out]
                  rintro e w5 ⟨rfl, b5⟩
                  have HS5 := Lib.hid (facts_stable hst (b5.chg []))
                  have HI5 := Lib.hid (HI.out.trans (b5.mono HI.out.size))
                  clear b5 hst
                  go_wp2
                  exact ⟨rfl, _, rfl, rfl, HI5.out, HS5.out⟩
                · refine .inr (Owes.qG 71 (fun u => [(39, u 20)]) fun u w' hI hR => ?_); dsimp only [frm, List.foldl, List.replicate, List.set]; have e20 : u 20 = _ := hR 20 (by decide); rw [e20]; clear hI hst hR; go_wp2; exact ⟨rfl, _, rfl, rfl, rfl⟩
                · refine .inr (Owes.q 71 (fun u => [(36, u 17), (40, u 21)]) fun u w' hI hR => ?_); dsimp only [frm, List.foldl, List.replicate, List.set]; have e17 : u 17 = _ := hR 17 (by decide); have e21 : u 21 = _ := hR 21 (by decide); rw [e17, e21]; clear hI hst hR; go_wp2; exact ⟨rfl, _, rfl, rfl, rfl⟩
                · refine .inr (Owes.q 71 (fun u => [(41, u 22)]) fun u w' hI hR => ?_); dsimp only [frm, List.foldl, List.replicate, List.set]; have e22 : u 22 = _ := hR 22 (by decide); rw [e22]; clear hI hst hR; go_wp2; exact ⟨rfl, _, rfl, rfl, rfl⟩
                · refine .inr (Owes.qG 71 (fun u => [(6, .pointer (some ⟨bj, 0, none⟩))]) fun u w' hI hR => ?_); dsimp only [frm, List.foldl, List.replicate, List.set]; clear hI hst hR; go_wp2; exact ⟨rfl, _, rfl, rfl, rfl⟩
                · refine .inr (Owes.qG 71 (fun u => [(43, u 24)]) fun u w' hI hR => ?_); dsimp only [frm, List.foldl, List.replicate, List.set]; have e24 : u 24 = _ := hR 24 (by decide); rw [e24]; clear hI hst hR; go_wp2; exact ⟨rfl, _, rfl, rfl, rfl⟩
                · refine .inr (Owes.qG 71 (fun u => [(44, u 25)]) fun u w' hI hR => ?_); dsimp only [frm, List.foldl, List.replicate, List.set]; obtain ⟨_, hI⟩ := hI; have k2 := keep_cell hI D2; have e25 : u 25 = _ := hR 25 (by decide); rw [e25]; clear hI hst hR; go_wp2; exact ⟨rfl, _, rfl, rfl, rfl⟩
                · refine .inr (Owes.qG 71 (fun u => [(2, .pointer (some ⟨w.heap.size, 0, none⟩))]) fun u w' hI hR => ?_); dsimp only [frm, List.foldl, List.replicate, List.set]; clear hI hst hR; go_wp2; exact ⟨rfl, _, rfl, rfl, rfl⟩
                · refine .inr (Owes.qG 71 (fun u => [(46, u 27)]) fun u w' hI hR => ?_); dsimp only [frm, List.foldl, List.replicate, List.set]; obtain ⟨_, hI⟩ := hI; have k7 := keep_cell hI X2; have e27 : u 27 = _ := hR 27 (by decide); rw [e27]; clear hI hst hR; go_wp2; exact ⟨rfl, _, rfl, rfl, rfl⟩
                · refine .inr (Owes.qG 71 (fun u => [(6, .pointer (some ⟨bj, 0, none⟩))]) fun u w' hI hR => ?_); dsimp only [frm, List.foldl, List.replicate, List.set]; clear hI hst hR; go_wp2; exact ⟨rfl, _, rfl, rfl, rfl⟩
                · refine .inr (Owes.qG 71 (fun u => [(48, u 29)]) fun u w' hI hR => ?_); dsimp only [frm, List.foldl, List.replicate, List.set]; obtain ⟨_, hI⟩ := hI; have k0 := keep_cell hI D0; have e29 : u 29 = _ := hR 29 (by decide); rw [e29]; clear hI hst hR; go_wp2; exact ⟨rfl, _, rfl, rfl, rfl⟩
                · refine .inr (Owes.qG 71 (fun u => [(47, u 28), (49, u 30)]) fun u w' hI hR => ?_); dsimp only [frm, List.foldl, List.replicate, List.set]; have e28 : u 28 = _ := hR 28 (by decide); have e30 : u 30 = _ := hR 30 (by decide); rw [e28, e30]; clear hI hst hR; go_wp2; exact ⟨rfl, _, rfl, rfl, rfl⟩
                · refine .inr (Owes.qG 71 (fun u => [(50, u 31)]) fun u w' hI hR => ?_); dsimp only [frm, List.foldl, List.replicate, List.set]; obtain ⟨_, hI⟩ := hI; have k8 := keep_cell hI Y0; have e31 : u 31 = _ := hR 31 (by decide); rw [e31]; clear hI hst hR; go_wp2; exact ⟨rfl, _, rfl, rfl, rfl⟩
                · refine .inr (Owes.qG 71 (fun u => [(6, .pointer (some ⟨bj, 0, none⟩))]) fun u w' hI hR => ?_); dsimp only [frm, List.foldl, List.replicate, List.set]; clear hI hst hR; go_wp2; exact ⟨rfl, _, rfl, rfl, rfl⟩
                · refine .inr (Owes.qG 71 (fun u => [(52, u 33)]) fun u w' hI hR => ?_); dsimp only [frm, List.foldl, List.replicate, List.set]; obtain ⟨_, hI⟩ := hI; have k1 := keep_cell hI D1; have e33 : u 33 = _ := hR 33 (by decide); rw [e33]; clear hI hst hR; go_wp2; exact ⟨rfl, _, rfl, rfl, rfl⟩
                · refine .inr (Owes.qG 71 (fun u => [(51, u 32), (53, u 34)]) fun u w' hI hR => ?_); dsimp only [frm, List.foldl, List.replicate, List.set]; have e32 : u 32 = _ := hR 32 (by decide); have e34 : u 34 = _ := hR 34 (by decide); rw [e32, e34]; clear hI hst hR; go_wp2; exact ⟨rfl, _, rfl, rfl, rfl⟩
                · refine .inr (Owes.qG 71 (fun u => [(54, u 35)]) fun u w' hI hR => ?_); dsimp only [frm, List.foldl, List.replicate, List.set]; have e35 : u 35 = _ := hR 35 (by decide); rw [e35]; clear hI hst hR; go_wp2; exact ⟨rfl, _, rfl, rfl, rfl⟩
                · refine .inr (Owes.qG 71 (fun u => [(55, u 36)]) fun u w' hI hR => ?_); dsimp only [frm, List.foldl, List.replicate, List.set]; obtain ⟨_, hI⟩ := hI; have k9 := keep_cell hI Z0; have e36 : u 36 = _ := hR 36 (by decide); rw [e36]; clear hI hst hR; go_wp2; exact ⟨rfl, _, rfl, rfl, rfl⟩
                · refine .inr (Owes.qG 71 (fun u => [(45, u 26), (56, u 37)]) fun u w' hI hR => ?_); dsimp only [frm, List.foldl, List.replicate, List.set]; have e26 : u 26 = _ := hR 26 (by decide); have e37 : u 37 = _ := hR 37 (by decide); rw [e26, e37]; clear hI hst hR; go_wp2; exact ⟨rfl, _, rfl, rfl, rfl⟩
                · refine .inr (Owes.q 71 (fun u => [(42, u 23), (57, u 38)]) fun u w' hI hR => ?_); dsimp only [frm, List.foldl, List.replicate, List.set]; have e23 : u 23 = _ := hR 23 (by decide); have e38 : u 38 = _ := hR 38 (by decide); rw [e23, e38]; clear hI hst hR; go_wp2; exact ⟨rfl, _, rfl, rfl, rfl⟩
                · refine .inr (Owes.q 71 (fun u => [(58, u 39)]) fun u w' hI hR => ?_); dsimp only [frm, List.foldl, List.replicate, List.set]; have e39 : u 39 = _ := hR 39 (by decide); rw [e39]; clear hI hst hR; go_wp2; exact ⟨rfl, _, rfl, rfl, rfl⟩
              case hend =>
                intro u w' hI hR
                simp only [setAll, List.set_cons_zero, List.set_cons_succ]
                have e40 : u 40 = _ := hR 40 (by decide)
                rw [e40]
                clear e40
                have HB5 := Lib.hid (B4.out.trans (hI.mono B4.out.size))
                clear hR hst hI D0 D1 D2 D3 D4 S2 A0 X2 Y0 Z0 S5
                go_wp2
                go_ret
                exact ⟨ret_bool (told_no1 hL HNo.out).symm, HB5.out⟩
            · have HGood : Hid (jobGood c asked true l[k] = true) := Lib.hid (by rw [HJ.out, HFit.out, HCm.out]; rfl)
              obtain ⟨z, hz⟩ : ∃ z, jobAt (l.take k) uu ii = z := ⟨_, rfl⟩
              obtain ⟨bz, hbz⟩ : ∃ y, decide (0 ≤ z) = y := ⟨_, rfl⟩
              have HNew : Hid ((l.take k).any (isJob uu ii) = bz) := Lib.hid (by rw [← hbz, ← hz]; exact (idxOf_any _ _).symm)
              have HZ := Lib.hid hz
              clear hz
              cases bz
              · skip
                have hst : ∀ F, F ∈ [FEq (.pointer (some ⟨bj, 0, none⟩)), FEq (.int .i64 (uu : Int)), FEq (.bool true), FEq (.bool false), FEq (.bool false), FEq (.pointer (some ⟨bj, 1, none⟩)), FEq (.int .i64 (ii : Int)), FEq (.pointer (some ⟨w.heap.size + 1, 2, none⟩)), FEq (.slice (some ⟨ab, ao, none⟩) an ac), FEq (.pointer (some ⟨bj, 0, none⟩)), FEq (.int .i64 (uu : Int)), FEq (.pointer (some ⟨ab, ao + uu, none⟩)), FEq (.int .i64 au), FEq (.int .i64 (au - 1)), FEq (.bool true), FEq (.bool false), FEq (.bool false), FEq (.bool false), FEq (.pointer (some ⟨bj, 2, none⟩)), FEq (.agg #[.int .i64 ji, .int .i64 jc, .slice dva dvn dvc]), FEq (.bool true), FEq (.bool false), FEq (.bool false), FEq (.bool false), FEq (.pointer (some ⟨bj, 2, none⟩)), FEq (.pointer (some ⟨bj, 2, none⟩)), FEq (.int .i64 ji), FEq (.pointer (some ⟨w.heap.size, 2, none⟩)), FEq (.slice (some ⟨pb, po, none⟩) pn pc), FEq (.pointer (some ⟨bj, 0, none⟩)), FEq (.int .i64 (uu : Int)), FEq (.pointer (some ⟨pb, po + uu, none⟩)), FEq (.slice (some ⟨rb, ro, none⟩) rn rc), FEq (.pointer (some ⟨bj, 1, none⟩)), FEq (.int .i64 (ii : Int)), FEq (.pointer (some ⟨rb, ro + ii * 7, none⟩)), FEq (.pointer (some ⟨rb, ro + ii * 7, none⟩)), FEq (.int .i64 rid), FEq (.bool false), FEq (.bool false), FEq (.bool false), FEq (.pointer (some ⟨w.heap.size + 1, 5, none⟩)), FEq (.slice (some ⟨lb, lo, none⟩) n cap), FEq (.int .i64 (k : Int)), FEq (.slice (some ⟨lb, lo, none⟩) k cap), FEq (.pointer (some ⟨bj, 0, none⟩)), FEq (.int .i64 (uu : Int)), FEq (.pointer (some ⟨bj, 1, none⟩)), FEq (.int .i64 (ii : Int)), FEq (.int .i64 z)] → Stable [] F := by
                  simp only [List.forall_mem_cons]
                  exact ⟨stEq _ _, stEq _ _, stEq _ _, stEq _ _, stEq _ _, stEq _ _, stEq _ _, stEq _ _, stEq _ _, stEq _ _, stEq _ _, stEq _ _, stEq _ _, stEq _ _, stEq _ _, stEq _ _, stEq _ _, stEq _ _, stEq _ _, stEq _ _, stEq _ _, stEq _ _, stEq _ _, stEq _ _, stEq _ _, stEq _ _, stEq _ _, stEq _ _, stEq _ _, stEq _ _, stEq _ _, stEq _ _, stEq _ _, stEq _ _, stEq _ _, stEq _ _, stEq _ _, stEq _ _, stEq _ _, stEq _ _, stEq _ _, stEq _ _, stEq _ _, stEq _ _, stEq _ _, stEq _ _, stEq _ _, stEq _ _, stEq _ _, stEq _ _, fun _ h => by simp at h⟩
                refine wp_region_tail (by kernel_rfl) (fun i => (tbl5Told5 : List (List Nat)).getD i []) (facts [FEq (.pointer (some ⟨bj, 0, none⟩)), FEq (.int .i64 (uu : Int)), FEq (.bool true), FEq (.bool false), FEq (.bool false), FEq (.pointer (some ⟨bj, 1, none⟩)), FEq (.int .i64 (ii : Int)), FEq (.pointer (some ⟨w.heap.size + 1, 2, none⟩)), FEq (.slice (some ⟨ab, ao, none⟩) an ac), FEq (.pointer (some ⟨bj, 0, none⟩)), FEq (.int .i64 (uu : Int)), FEq (.pointer (some ⟨ab, ao + uu, none⟩)), FEq (.int .i64 au), FEq (.int .i64 (au - 1)), FEq (.bool true), FEq (.bool false), FEq (.bool false), FEq (.bool false), FEq (.pointer (some ⟨bj, 2, none⟩)), FEq (.agg #[.int .i64 ji, .int .i64 jc, .slice dva dvn dvc]), FEq (.bool true), FEq (.bool false), FEq (.bool false), FEq (.bool false), FEq (.pointer (some ⟨bj, 2, none⟩)), FEq (.pointer (some ⟨bj, 2, none⟩)), FEq (.int .i64 ji), FEq (.pointer (some ⟨w.heap.size, 2, none⟩)), FEq (.slice (some ⟨pb, po, none⟩) pn pc), FEq (.pointer (some ⟨bj, 0, none⟩)), FEq (.int .i64 (uu : Int)), FEq (.pointer (some ⟨pb, po + uu, none⟩)), FEq (.slice (some ⟨rb, ro, none⟩) rn rc), FEq (.pointer (some ⟨bj, 1, none⟩)), FEq (.int .i64 (ii : Int)), FEq (.pointer (some ⟨rb, ro + ii * 7, none⟩)), FEq (.pointer (some ⟨rb, ro + ii * 7, none⟩)), FEq (.int .i64 rid), FEq (.bool false), FEq (.bool false), FEq (.bool false), FEq (.pointer (some ⟨w.heap.size + 1, 5, none⟩)), FEq (.slice (some ⟨lb, lo, none⟩) n cap), FEq (.int .i64 (k : Int)), FEq (.slice (some ⟨lb, lo, none⟩) k cap), FEq (.pointer (some ⟨bj, 0, none⟩)), FEq (.int .i64 (uu : Int)), FEq (.pointer (some ⟨bj, 1, none⟩)), FEq (.int .i64 (ii : Int)), FEq (.int .i64 z)]) (fun m w' => Below w4.heap.size w4 w') 71 52 50 [some 19, some 20, some 21, some 22, some 23, some 24, some 25, some 26, some 27, some 28, some 29, some 30, some 31, some 32, some 33, some 34, some 35, some 36, some 37, some 38, some 39, some 40, some 41, some 42, some 43, some 44, some 45, some 46, some 47, some 48, some 49, some 50, some 51, some 52, some 53, some 54, some 55, some 56, some 57, some 58, some 59, some 60, some 61, some 62, some 63, some 64, some 65, some 66, some 67, some 68] _ rfl rfl (by decide) rfl rfl (by kernel_rfl) (by kernel_rfl) [(17, false), (23, false), (4, false), (40, false)] (by kernel_rfl) (fun g b hm v w h => by simp only [List.mem_cons, List.not_mem_nil, or_false, Prod.mk.injEq] at hm; rcases hm with ⟨rfl, rfl⟩ | ⟨rfl, rfl⟩ | ⟨rfl, rfl⟩ | ⟨rfl, rfl⟩ <;> exact h) ?h0 (all_lt (n := 50) ?hop) ?hend
                case h0 => exact (Below.refl _ _).drew
                case hop =>
                  refine ⟨⟨⟨⟨⟨⟨⟨⟨⟨⟨⟨⟨⟨⟨⟨⟨⟨⟨⟨⟨⟨⟨⟨⟨⟨⟨⟨⟨⟨⟨⟨⟨⟨⟨⟨⟨⟨⟨⟨⟨⟨⟨⟨⟨⟨⟨⟨⟨⟨⟨trivial, ?_⟩, ?_⟩, ?_⟩, ?_⟩, ?_⟩, ?_⟩, ?_⟩, ?_⟩, ?_⟩, ?_⟩, ?_⟩, ?_⟩, ?_⟩, ?_⟩, ?_⟩, ?_⟩, ?_⟩, ?_⟩, ?_⟩, ?_⟩, ?_⟩, ?_⟩, ?_⟩, ?_⟩, ?_⟩, ?_⟩, ?_⟩, ?_⟩, ?_⟩, ?_⟩, ?_⟩, ?_⟩, ?_⟩, ?_⟩, ?_⟩, ?_⟩, ?_⟩, ?_⟩, ?_⟩, ?_⟩, ?_⟩, ?_⟩, ?_⟩, ?_⟩, ?_⟩, ?_⟩, ?_⟩, ?_⟩, ?_⟩, ?_⟩
                  · refine Owes.q 71 (fun u => [(6, .pointer (some ⟨bj, 0, none⟩))]) fun u w' hI hR => ?_; dsimp only [frm, List.foldl, List.replicate, List.set]; clear hI hst hR; go_wp2; exact ⟨rfl, _, rfl, rfl, rfl⟩
                  · refine Owes.q 71 (fun u => [(19, u 0)]) fun u w' hI hR => ?_; dsimp only [frm, List.foldl, List.replicate, List.set]; obtain ⟨_, hI⟩ := hI; have k0 := keep_cell hI D0; have e0 : u 0 = _ := hR 0 (by decide); rw [e0]; clear hI hst hR; go_wp2; exact ⟨rfl, _, rfl, rfl, rfl⟩
                  · refine Owes.mk _ rfl rfl (fun _ _ h => by cases h) fun u m w' hm hI hR => ⟨⟨(frm 71 [(20, u 1)]).toArray, []⟩, rfl, fun d hd => by cases hd; exact frm_lt (by decide), ?_⟩
                    dsimp only [frm, List.foldl, List.replicate, List.set]
                    have e1 : u 1 = _ := hR 1 (by decide)
                    have k0 := keep_cell hI D0
                    have k1 := keep_cell hI D1
                    have k2 := keep_cell hI D2
                    have k3 := keep_cell hI D3
                    have k4 := keep_cell hI D4
                    have k5 := keep_cell hI S2
                    have k6 := keep_cell hI A0
                    have k7 := keep_cell hI X2
                    have k8 := keep_cell hI Y0
                    have k9 := keep_cell hI Z0
                    have k10 := keep_cell hI S5
                    rw [e1]
                    clear e1
                    have HI := Lib.hid hI
                    clear hI hst
                    go_wp2_with fail
                    refine (l1In_v HWho.out _).mono ?_
                    rintro e w5 ⟨rfl, rfl⟩
                    go_wp2
                    exact ⟨rfl, _, rfl, rfl, HI.out, fun _ _ h => h⟩
                  · refine Owes.q 71 (fun u => [(21, u 2)]) fun u w' hI hR => ?_; dsimp only [frm, List.foldl, List.replicate, List.set]; have e2 : u 2 = _ := hR 2 (by decide); rw [e2]; clear hI hst hR; go_wp2; exact ⟨rfl, _, rfl, rfl, rfl⟩
                  · refine Owes.q 71 (fun u => [(22, u 3)]) fun u w' hI hR => ?_; dsimp only [frm, List.foldl, List.replicate, List.set]; have e3 : u 3 = _ := hR 3 (by decide); rw [e3]; clear hI hst hR; go_wp2; exact ⟨rfl, _, rfl, rfl, rfl⟩
                  · refine Owes.qG 71 (fun u => [(6, .pointer (some ⟨bj, 0, none⟩))]) fun u w' hI hR => ?_; dsimp only [frm, List.foldl, List.replicate, List.set]; clear hI hst hR; go_wp2; exact ⟨rfl, _, rfl, rfl, rfl⟩
                  · refine Owes.qG 71 (fun u => [(24, u 5)]) fun u w' hI hR => ?_; dsimp only [frm, List.foldl, List.replicate, List.set]; obtain ⟨_, hI⟩ := hI; have k1 := keep_cell hI D1; have e5 : u 5 = _ := hR 5 (by decide); rw [e5]; clear hI hst hR; go_wp2; exact ⟨rfl, _, rfl, rfl, rfl⟩
                  · refine Owes.qG 71 (fun u => [(3, .pointer (some ⟨w.heap.size + 1, 0, none⟩))]) fun u w' hI hR => ?_; dsimp only [frm, List.foldl, List.replicate, List.set]; clear hI hst hR; go_wp2; exact ⟨rfl, _, rfl, rfl, rfl⟩
                  · refine Owes.qG 71 (fun u => [(26, u 7)]) fun u w' hI hR => ?_; dsimp only [frm, List.foldl, List.replicate, List.set]; obtain ⟨_, hI⟩ := hI; have k5 := keep_cell hI S2; have e7 : u 7 = _ := hR 7 (by decide); rw [e7]; clear hI hst hR; go_wp2; exact ⟨rfl, _, rfl, rfl, rfl⟩
                  · refine Owes.qG 71 (fun u => [(6, .pointer (some ⟨bj, 0, none⟩))]) fun u w' hI hR => ?_; dsimp only [frm, List.foldl, List.replicate, List.set]; clear hI hst hR; go_wp2; exact ⟨rfl, _, rfl, rfl, rfl⟩
                  · refine Owes.qG 71 (fun u => [(28, u 9)]) fun u w' hI hR => ?_; dsimp only [frm, List.foldl, List.replicate, List.set]; obtain ⟨_, hI⟩ := hI; have k0 := keep_cell hI D0; have e9 : u 9 = _ := hR 9 (by decide); rw [e9]; clear hI hst hR; go_wp2; exact ⟨rfl, _, rfl, rfl, rfl⟩
                  · refine Owes.qG 71 (fun u => [(27, u 8), (29, u 10)]) fun u w' hI hR => ?_; dsimp only [frm, List.foldl, List.replicate, List.set]; have e8 : u 8 = _ := hR 8 (by decide); have e10 : u 10 = _ := hR 10 (by decide); rw [e8, e10]; clear hI hst hR; go_wp2; exact ⟨rfl, _, rfl, rfl, rfl⟩
                  · refine Owes.qG 71 (fun u => [(30, u 11)]) fun u w' hI hR => ?_; dsimp only [frm, List.foldl, List.replicate, List.set]; obtain ⟨_, hI⟩ := hI; have k6 := keep_cell hI A0; have e11 : u 11 = _ := hR 11 (by decide); rw [e11]; clear hI hst hR; go_wp2; exact ⟨rfl, _, rfl, rfl, rfl⟩
                  · refine Owes.mkG _ _ rfl rfl (fun _ _ h => by cases h) fun u m w' hm hI hR => ⟨⟨(frm 71 [(31, u 12)]).toArray, []⟩, rfl, fun d hd => by cases hd; exact frm_lt (by decide), ?_⟩
                    dsimp only [frm, List.foldl, List.replicate, List.set]
                    have e12 : u 12 = _ := hR 12 (by decide)
                    have k0 := keep_cell hI D0
                    have k1 := keep_cell hI D1
                    have k2 := keep_cell hI D2
                    have k3 := keep_cell hI D3
                    have k4 := keep_cell hI D4
                    have k5 := keep_cell hI S2
                    have k6 := keep_cell hI A0
                    have k7 := keep_cell hI X2
                    have k8 := keep_cell hI Y0
                    have k9 := keep_cell hI Z0
                    have k10 := keep_cell hI S5
                    rw [e12]
                    clear e12
                    have HI := Lib.hid hI
                    clear hI hst hR
                    go_wp2
                    exact ⟨rfl, _, rfl, (by show _ = _; go_num), HI.out, fun _ _ h => h⟩
                  · refine Owes.mkG _ _ rfl rfl (fun _ _ h => by cases h) fun u m w' hm hI hR => ⟨⟨(frm 71 [(25, u 6), (32, u 13)]).toArray, []⟩, rfl, fun d hd => by cases hd; exact frm_lt (by decide), ?_⟩
                    dsimp only [frm, List.foldl, List.replicate, List.set]
                    have e6 : u 6 = _ := hR 6 (by decide)
                    have e13 : u 13 = _ := hR 13 (by decide)
                    have k0 := keep_cell hI D0
                    have k1 := keep_cell hI D1
                    have k2 := keep_cell hI D2
                    have k3 := keep_cell hI D3
                    have k4 := keep_cell hI D4
                    have k5 := keep_cell hI S2
                    have k6 := keep_cell hI A0
                    have k7 := keep_cell hI X2
                    have k8 := keep_cell hI Y0
                    have k9 := keep_cell hI Z0
                    have k10 := keep_cell hI S5
                    rw [e6, e13]
                    clear e6 e13
                    have HI := Lib.hid hI
                    clear hI hst
                    go_wp2_with fail
                    refine (l1In_v HN.out _).mono ?_
                    rintro e w5 ⟨rfl, rfl⟩
                    go_wp2
                    exact ⟨rfl, _, rfl, rfl, HI.out, fun _ _ h => h⟩
                  · refine Owes.qG 71 (fun u => [(33, u 14)]) fun u w' hI hR => ?_; dsimp only [frm, List.foldl, List.replicate, List.set]; have e14 : u 14 = _ := hR 14 (by decide); rw [e14]; clear hI hst hR; go_wp2; exact ⟨rfl, _, rfl, rfl, rfl⟩
                  · refine Owes.q 71 (fun u => [(23, u 4), (34, u 15)]) fun u w' hI hR => ?_; dsimp only [frm, List.foldl, List.replicate, List.set]; have e4 : u 4 = _ := hR 4 (by decide); have e15 : u 15 = _ := hR 15 (by decide); rw [e4, e15]; clear hI hst hR; go_wp2; exact ⟨rfl, _, rfl, rfl, rfl⟩
                  · refine Owes.q 71 (fun u => [(35, u 16)]) fun u w' hI hR => ?_; dsimp only [frm, List.foldl, List.replicate, List.set]; have e16 : u 16 = _ := hR 16 (by decide); rw [e16]; clear hI hst hR; go_wp2; exact ⟨rfl, _, rfl, rfl, rfl⟩
                  · refine Owes.qG 71 (fun u => [(6, .pointer (some ⟨bj, 0, none⟩))]) fun u w' hI hR => ?_; dsimp only [frm, List.foldl, List.replicate, List.set]; clear hI hst hR; go_wp2; exact ⟨rfl, _, rfl, rfl, rfl⟩
                  · refine Owes.qG 71 (fun u => [(37, u 18)]) fun u w' hI hR => ?_; dsimp only [frm, List.foldl, List.replicate, List.set]; obtain ⟨_, hI⟩ := hI; have k2 := keep_cell hI D2; have k3 := keep_cell hI D3; have k4 := keep_cell hI D4; have e18 : u 18 = _ := hR 18 (by decide); rw [e18]; clear hI hst hR; go_wp2; exact ⟨rfl, _, rfl, rfl, rfl⟩
                  · refine Owes.mkG _ _ rfl rfl (fun _ _ h => by cases h) fun u m w' hm hI hR => ⟨⟨(frm 71 [(38, u 19)]).toArray, []⟩, rfl, fun d hd => by cases hd; exact frm_lt (by decide), ?_⟩
                    dsimp only [frm, List.foldl, List.replicate, List.set]
                    have e19 : u 19 = _ := hR 19 (by decide)
                    have k0 := keep_cell hI D0
                    have k1 := keep_cell hI D1
                    have k2 := keep_cell hI D2
                    have k3 := keep_cell hI D3
                    have k4 := keep_cell hI D4
                    have k5 := keep_cell hI S2
                    have k6 := keep_cell hI A0
                    have k7 := keep_cell hI X2
                    have k8 := keep_cell hI Y0
                    have k9 := keep_cell hI Z0
                    have k10 := keep_cell hI S5
                    rw [e19]
                    clear e19
                    have GD6 := Lib.hid (SlR.below intR_fits GD4.out hI)
                    have HI := Lib.hid hI
                    clear hI hR
                    go_wp2_with fail
                    refine (sRspOk_any ⟨ji, jc, jd⟩ _ df _ GD6.out).mono ?_
                    rw [HRk.out]
                    rintro e w5 ⟨rfl, b5⟩
                    have HS5 := Lib.hid (facts_stable hst (b5.chg []))
                    have HI5 := Lib.hid (HI.out.trans (b5.mono HI.out.size))
                    clear b5 hst
                    go_wp2
                    exact ⟨rfl, _, rfl, rfl, HI5.out, HS5.out⟩
                  · refine Owes.qG 71 (fun u => [(39, u 20)]) fun u w' hI hR => ?_; dsimp only [frm, List.foldl, List.replicate, List.set]; have e20 : u 20 = _ := hR 20 (by decide); rw [e20]; clear hI hst hR; go_wp2; exact ⟨rfl, _, rfl, rfl, rfl⟩
                  · refine Owes.q 71 (fun u => [(36, u 17), (40, u 21)]) fun u w' hI hR => ?_; dsimp only [frm, List.foldl, List.replicate, List.set]; have e17 : u 17 = _ := hR 17 (by decide); have e21 : u 21 = _ := hR 21 (by decide); rw [e17, e21]; clear hI hst hR; go_wp2; exact ⟨rfl, _, rfl, rfl, rfl⟩
                  · refine Owes.q 71 (fun u => [(41, u 22)]) fun u w' hI hR => ?_; dsimp only [frm, List.foldl, List.replicate, List.set]; have e22 : u 22 = _ := hR 22 (by decide); rw [e22]; clear hI hst hR; go_wp2; exact ⟨rfl, _, rfl, rfl, rfl⟩
                  · refine Owes.qG 71 (fun u => [(6, .pointer (some ⟨bj, 0, none⟩))]) fun u w' hI hR => ?_; dsimp only [frm, List.foldl, List.replicate, List.set]; clear hI hst hR; go_wp2; exact ⟨rfl, _, rfl, rfl, rfl⟩
                  · refine Owes.qG 71 (fun u => [(43, u 24)]) fun u w' hI hR => ?_; dsimp only [frm, List.foldl, List.replicate, List.set]; have e24 : u 24 = _ := hR 24 (by decide); rw [e24]; clear hI hst hR; go_wp2; exact ⟨rfl, _, rfl, rfl, rfl⟩
                  · refine Owes.qG 71 (fun u => [(44, u 25)]) fun u w' hI hR => ?_; dsimp only [frm, List.foldl, List.replicate, List.set]; obtain ⟨_, hI⟩ := hI; have k2 := keep_cell hI D2; have e25 : u 25 = _ := hR 25 (by decide); rw [e25]; clear hI hst hR; go_wp2; exact ⟨rfl, _, rfl, rfl, rfl⟩
                  · refine Owes.qG 71 (fun u => [(2, .pointer (some ⟨w.heap.size, 0, none⟩))]) fun u w' hI hR => ?_; dsimp only [frm, List.foldl, List.replicate, List.set]; clear hI hst hR; go_wp2; exact ⟨rfl, _, rfl, rfl, rfl⟩
                  · refine Owes.qG 71 (fun u => [(46, u 27)]) fun u w' hI hR => ?_; dsimp only [frm, List.foldl, List.replicate, List.set]; obtain ⟨_, hI⟩ := hI; have k7 := keep_cell hI X2; have e27 : u 27 = _ := hR 27 (by decide); rw [e27]; clear hI hst hR; go_wp2; exact ⟨rfl, _, rfl, rfl, rfl⟩
                  · refine Owes.qG 71 (fun u => [(6, .pointer (some ⟨bj, 0, none⟩))]) fun u w' hI hR => ?_; dsimp only [frm, List.foldl, List.replicate, List.set]; clear hI hst hR; go_wp2; exact ⟨rfl, _, rfl, rfl, rfl⟩
                  · refine Owes.qG 71 (fun u => [(48, u 29)]) fun u w' hI hR => ?_; dsimp only [frm, List.foldl, List.replicate, List.set]; obtain ⟨_, hI⟩ := hI; have k0 := keep_cell hI D0; have e29 : u 29 = _ := hR 29 (by decide); rw [e29]; clear hI hst hR; go_wp2; exact ⟨rfl, _, rfl, rfl, rfl⟩
                  · refine Owes.qG 71 (fun u => [(47, u 28), (49, u 30)]) fun u w' hI hR => ?_; dsimp only [frm, List.foldl, List.replicate, List.set]; have e28 : u 28 = _ := hR 28 (by decide); have e30 : u 30 = _ := hR 30 (by decide); rw [e28, e30]; clear hI hst hR; go_wp2; exact ⟨rfl, _, rfl, rfl, rfl⟩
                  · refine Owes.qG 71 (fun u => [(50, u 31)]) fun u w' hI hR => ?_; dsimp only [frm, List.foldl, List.replicate, List.set]; obtain ⟨_, hI⟩ := hI; have k8 := keep_cell hI Y0; have e31 : u 31 = _ := hR 31 (by decide); rw [e31]; clear hI hst hR; go_wp2; exact ⟨rfl, _, rfl, rfl, rfl⟩
                  · refine Owes.qG 71 (fun u => [(6, .pointer (some ⟨bj, 0, none⟩))]) fun u w' hI hR => ?_; dsimp only [frm, List.foldl, List.replicate, List.set]; clear hI hst hR; go_wp2; exact ⟨rfl, _, rfl, rfl, rfl⟩
                  · refine Owes.qG 71 (fun u => [(52, u 33)]) fun u w' hI hR => ?_; dsimp only [frm, List.foldl, List.replicate, List.set]; obtain ⟨_, hI⟩ := hI; have k1 := keep_cell hI D1; have e33 : u 33 = _ := hR 33 (by decide); rw [e33]; clear hI hst hR; go_wp2; exact ⟨rfl, _, rfl, rfl, rfl⟩
                  · refine Owes.qG 71 (fun u => [(51, u 32), (53, u 34)]) fun u w' hI hR => ?_; dsimp only [frm, List.foldl, List.replicate, List.set]; have e32 : u 32 = _ := hR 32 (by decide); have e34 : u 34 = _ := hR 34 (by decide); rw [e32, e34]; clear hI hst hR; go_wp2; exact ⟨rfl, _, rfl, rfl, rfl⟩
                  · refine Owes.qG 71 (fun u => [(54, u 35)]) fun u w' hI hR => ?_; dsimp only [frm, List.foldl, List.replicate, List.set]; have e35 : u 35 = _ := hR 35 (by decide); rw [e35]; clear hI hst hR; go_wp2; exact ⟨rfl, _, rfl, rfl, rfl⟩
                  · refine Owes.qG 71 (fun u => [(55, u 36)]) fun u w' hI hR => ?_; dsimp only [frm, List.foldl, List.replicate, List.set]; obtain ⟨_, hI⟩ := hI; have k9 := keep_cell hI Z0; have e36 : u 36 = _ := hR 36 (by decide); rw [e36]; clear hI hst hR; go_wp2; exact ⟨rfl, _, rfl, rfl, rfl⟩
                  · refine Owes.qG 71 (fun u => [(45, u 26), (56, u 37)]) fun u w' hI hR => ?_; dsimp only [frm, List.foldl, List.replicate, List.set]; have e26 : u 26 = _ := hR 26 (by decide); have e37 : u 37 = _ := hR 37 (by decide); rw [e26, e37]; clear hI hst hR; go_wp2; exact ⟨rfl, _, rfl, rfl, rfl⟩
                  · refine Owes.q 71 (fun u => [(42, u 23), (57, u 38)]) fun u w' hI hR => ?_; dsimp only [frm, List.foldl, List.replicate, List.set]; have e23 : u 23 = _ := hR 23 (by decide); have e38 : u 38 = _ := hR 38 (by decide); rw [e23, e38]; clear hI hst hR; go_wp2; exact ⟨rfl, _, rfl, rfl, rfl⟩
                  · refine Owes.q 71 (fun u => [(58, u 39)]) fun u w' hI hR => ?_; dsimp only [frm, List.foldl, List.replicate, List.set]; have e39 : u 39 = _ := hR 39 (by decide); rw [e39]; clear hI hst hR; go_wp2; exact ⟨rfl, _, rfl, rfl, rfl⟩
                  · refine Owes.qG 71 (fun u => [(3, .pointer (some ⟨w.heap.size + 1, 0, none⟩))]) fun u w' hI hR => ?_; dsimp only [frm, List.foldl, List.replicate, List.set]; clear hI hst hR; go_wp2; exact ⟨rfl, _, rfl, rfl, rfl⟩
                  · refine Owes.qG 71 (fun u => [(60, u 41)]) fun u w' hI hR => ?_; dsimp only [frm, List.foldl, List.replicate, List.set]; obtain ⟨_, hI⟩ := hI; have k10 := keep_cell hI S5; have e41 : u 41 = _ := hR 41 (by decide); rw [e41]; clear hI hst hR; go_wp2; exact ⟨rfl, _, rfl, rfl, rfl⟩
                  · refine Owes.qG 71 (fun u => [(5, .int .i64 (k : Int))]) fun u w' hI hR => ?_; dsimp only [frm, List.foldl, List.replicate, List.set]; clear hI hst hR; go_wp2; exact ⟨rfl, _, rfl, rfl, rfl⟩
                  · refine Owes.qG 71 (fun u => [(61, u 42), (62, u 43)]) fun u w' hI hR => ?_; dsimp only [frm, List.foldl, List.replicate, List.set]; have e42 : u 42 = _ := hR 42 (by decide); have e43 : u 43 = _ := hR 43 (by decide); rw [e42, e43]; clear hI hst hR; go_wp2; exact ⟨rfl, _, rfl, rfl, rfl⟩
                  · refine Owes.qG 71 (fun u => [(6, .pointer (some ⟨bj, 0, none⟩))]) fun u w' hI hR => ?_; dsimp only [frm, List.foldl, List.replicate, List.set]; clear hI hst hR; go_wp2; exact ⟨rfl, _, rfl, rfl, rfl⟩
                  · refine Owes.qG 71 (fun u => [(64, u 45)]) fun u w' hI hR => ?_; dsimp only [frm, List.foldl, List.replicate, List.set]; obtain ⟨_, hI⟩ := hI; have k0 := keep_cell hI D0; have e45 : u 45 = _ := hR 45 (by decide); rw [e45]; clear hI hst hR; go_wp2; exact ⟨rfl, _, rfl, rfl, rfl⟩
                  · refine Owes.qG 71 (fun u => [(6, .pointer (some ⟨bj, 0, none⟩))]) fun u w' hI hR => ?_; dsimp only [frm, List.foldl, List.replicate, List.set]; clear hI hst hR; go_wp2; exact ⟨rfl, _, rfl, rfl, rfl⟩
                  · refine Owes.qG 71 (fun u => [(66, u 47)]) fun u w' hI hR => ?_; dsimp only [frm, List.foldl, List.replicate, List.set]; obtain ⟨_, hI⟩ := hI; have k1 := keep_cell hI D1; have e47 : u 47 = _ := hR 47 (by decide); rw [e47]; clear hI hst hR; go_wp2; exact ⟨rfl, _, rfl, rfl, rfl⟩
                  · refine Owes.mkG _ _ rfl rfl (fun _ _ h => by cases h) fun u m w' hm hI hR => ⟨⟨(frm 71 [(63, u 44), (65, u 46), (67, u 48)]).toArray, []⟩, rfl, fun d hd => by cases hd; exact frm_lt (by decide), ?_⟩
                    dsimp only [frm, List.foldl, List.replicate, List.set]
                    have e44 : u 44 = _ := hR 44 (by decide)
                    have e46 : u 46 = _ := hR 46 (by decide)
                    have e48 : u 48 = _ := hR 48 (by decide)
                    have k0 := keep_cell hI D0
                    have k1 := keep_cell hI D1
                    have k2 := keep_cell hI D2
                    have k3 := keep_cell hI D3
                    have k4 := keep_cell hI D4
                    have k5 := keep_cell hI S2
                    have k6 := keep_cell hI A0
                    have k7 := keep_cell hI X2
                    have k8 := keep_cell hI Y0
                    have k9 := keep_cell hI Z0
                    have k10 := keep_cell hI S5
                    rw [e44, e46, e48]
                    clear e44 e46 e48
                    have GT6 := Lib.hid (SlR.below jobR_fits GT4.out hI)
                    have HI := Lib.hid hI
                    clear hI hR
                    go_wp2_with fail
                    refine (l5At_any _ _ ft uu ii _ GT6.out).mono ?_
                    rw [HZ.out]
                    rintro e w5 ⟨rfl, rfl⟩
                    clear hst
                    go_wp2
                    exact ⟨rfl, _, rfl, rfl, HI.out, fun _ _ h => h⟩
                case hend =>
                  intro u w' hI hR
                  simp only [setAll, List.set_cons_zero, List.set_cons_succ]
                  have e40 : u 40 = _ := hR 40 (by decide)
                  have e49 : u 49 = _ := hR 49 (by decide)
                  rw [e40, e49]
                  clear e40 e49
                  have HB5 := Lib.hid (B4.out.trans (hI.mono B4.out.size))
                  have HB15 := Lib.hid (B14.out.trans (hI.mono B14.out.size))
                  clear hR hst hI D0 D1 D2 D3 D4 S2 A0 X2 Y0 Z0 S5
                  go_wp2
                  go_roundw
                  case rel => exact ⟨k + 1, by omega, by go_num, (fun j h hj => by
                    by_cases e : j = k
                    · subst e; exact HGood.out
                    · exact HG.out j h (by omega)), HR.out.step (by rw [HJ.out]; exact HNew.out), HB5.out, HB15.out⟩
                  case measure => simp [intOf]; omega
              · skip
                have hst : ∀ F, F ∈ [FEq (.pointer (some ⟨bj, 0, none⟩)), FEq (.int .i64 (uu : Int)), FEq (.bool true), FEq (.bool false), FEq (.bool false), FEq (.pointer (some ⟨bj, 1, none⟩)), FEq (.int .i64 (ii : Int)), FEq (.pointer (some ⟨w.heap.size + 1, 2, none⟩)), FEq (.slice (some ⟨ab, ao, none⟩) an ac), FEq (.pointer (some ⟨bj, 0, none⟩)), FEq (.int .i64 (uu : Int)), FEq (.pointer (some ⟨ab, ao + uu, none⟩)), FEq (.int .i64 au), FEq (.int .i64 (au - 1)), FEq (.bool true), FEq (.bool false), FEq (.bool false), FEq (.bool false), FEq (.pointer (some ⟨bj, 2, none⟩)), FEq (.agg #[.int .i64 ji, .int .i64 jc, .slice dva dvn dvc]), FEq (.bool true), FEq (.bool false), FEq (.bool false), FEq (.bool false), FEq (.pointer (some ⟨bj, 2, none⟩)), FEq (.pointer (some ⟨bj, 2, none⟩)), FEq (.int .i64 ji), FEq (.pointer (some ⟨w.heap.size, 2, none⟩)), FEq (.slice (some ⟨pb, po, none⟩) pn pc), FEq (.pointer (some ⟨bj, 0, none⟩)), FEq (.int .i64 (uu : Int)), FEq (.pointer (some ⟨pb, po + uu, none⟩)), FEq (.slice (some ⟨rb, ro, none⟩) rn rc), FEq (.pointer (some ⟨bj, 1, none⟩)), FEq (.int .i64 (ii : Int)), FEq (.pointer (some ⟨rb, ro + ii * 7, none⟩)), FEq (.pointer (some ⟨rb, ro + ii * 7, none⟩)), FEq (.int .i64 rid), FEq (.bool false), FEq (.bool false), FEq (.bool false), FEq (.pointer (some ⟨w.heap.size + 1, 5, none⟩)), FEq (.slice (some ⟨lb, lo, none⟩) n cap), FEq (.int .i64 (k : Int)), FEq (.slice (some ⟨lb, lo, none⟩) k cap), FEq (.pointer (some ⟨bj, 0, none⟩)), FEq (.int .i64 (uu : Int)), FEq (.pointer (some ⟨bj, 1, none⟩)), FEq (.int .i64 (ii : Int)), FEq (.int .i64 z)] → Stable [] F := by
                  simp only [List.forall_mem_cons]
                  exact ⟨stEq _ _, stEq _ _, stEq _ _, stEq _ _, stEq _ _, stEq _ _, stEq _ _, stEq _ _, stEq _ _, stEq _ _, stEq _ _, stEq _ _, stEq _ _, stEq _ _, stEq _ _, stEq _ _, stEq _ _, stEq _ _, stEq _ _, stEq _ _, stEq _ _, stEq _ _, stEq _ _, stEq _ _, stEq _ _, stEq _ _, stEq _ _, stEq _ _, stEq _ _, stEq _ _, stEq _ _, stEq _ _, stEq _ _, stEq _ _, stEq _ _, stEq _ _, stEq _ _, stEq _ _, stEq _ _, stEq _ _, stEq _ _, stEq _ _, stEq _ _, stEq _ _, stEq _ _, stEq _ _, stEq _ _, stEq _ _, stEq _ _, stEq _ _, fun _ h => by simp at h⟩
                refine wp_region_tail (by kernel_rfl) (fun i => (tbl5Told5 : List (List Nat)).getD i []) (facts [FEq (.pointer (some ⟨bj, 0, none⟩)), FEq (.int .i64 (uu : Int)), FEq (.bool true), FEq (.bool false), FEq (.bool false), FEq (.pointer (some ⟨bj, 1, none⟩)), FEq (.int .i64 (ii : Int)), FEq (.pointer (some ⟨w.heap.size + 1, 2, none⟩)), FEq (.slice (some ⟨ab, ao, none⟩) an ac), FEq (.pointer (some ⟨bj, 0, none⟩)), FEq (.int .i64 (uu : Int)), FEq (.pointer (some ⟨ab, ao + uu, none⟩)), FEq (.int .i64 au), FEq (.int .i64 (au - 1)), FEq (.bool true), FEq (.bool false), FEq (.bool false), FEq (.bool false), FEq (.pointer (some ⟨bj, 2, none⟩)), FEq (.agg #[.int .i64 ji, .int .i64 jc, .slice dva dvn dvc]), FEq (.bool true), FEq (.bool false), FEq (.bool false), FEq (.bool false), FEq (.pointer (some ⟨bj, 2, none⟩)), FEq (.pointer (some ⟨bj, 2, none⟩)), FEq (.int .i64 ji), FEq (.pointer (some ⟨w.heap.size, 2, none⟩)), FEq (.slice (some ⟨pb, po, none⟩) pn pc), FEq (.pointer (some ⟨bj, 0, none⟩)), FEq (.int .i64 (uu : Int)), FEq (.pointer (some ⟨pb, po + uu, none⟩)), FEq (.slice (some ⟨rb, ro, none⟩) rn rc), FEq (.pointer (some ⟨bj, 1, none⟩)), FEq (.int .i64 (ii : Int)), FEq (.pointer (some ⟨rb, ro + ii * 7, none⟩)), FEq (.pointer (some ⟨rb, ro + ii * 7, none⟩)), FEq (.int .i64 rid), FEq (.bool false), FEq (.bool false), FEq (.bool false), FEq (.pointer (some ⟨w.heap.size + 1, 5, none⟩)), FEq (.slice (some ⟨lb, lo, none⟩) n cap), FEq (.int .i64 (k : Int)), FEq (.slice (some ⟨lb, lo, none⟩) k cap), FEq (.pointer (some ⟨bj, 0, none⟩)), FEq (.int .i64 (uu : Int)), FEq (.pointer (some ⟨bj, 1, none⟩)), FEq (.int .i64 (ii : Int)), FEq (.int .i64 z)]) (fun m w' => Below w4.heap.size w4 w') 71 52 50 [some 19, some 20, some 21, some 22, some 23, some 24, some 25, some 26, some 27, some 28, some 29, some 30, some 31, some 32, some 33, some 34, some 35, some 36, some 37, some 38, some 39, some 40, some 41, some 42, some 43, some 44, some 45, some 46, some 47, some 48, some 49, some 50, some 51, some 52, some 53, some 54, some 55, some 56, some 57, some 58, some 59, some 60, some 61, some 62, some 63, some 64, some 65, some 66, some 67, some 68] _ rfl rfl (by decide) rfl rfl (by kernel_rfl) (by kernel_rfl) [(17, false), (23, false), (4, false), (40, false)] (by kernel_rfl) (fun g b hm v w h => by simp only [List.mem_cons, List.not_mem_nil, or_false, Prod.mk.injEq] at hm; rcases hm with ⟨rfl, rfl⟩ | ⟨rfl, rfl⟩ | ⟨rfl, rfl⟩ | ⟨rfl, rfl⟩ <;> exact h) ?h0 (all_lt (n := 50) ?hop) ?hend
                case h0 => exact (Below.refl _ _).drew
                case hop =>
                  refine ⟨⟨⟨⟨⟨⟨⟨⟨⟨⟨⟨⟨⟨⟨⟨⟨⟨⟨⟨⟨⟨⟨⟨⟨⟨⟨⟨⟨⟨⟨⟨⟨⟨⟨⟨⟨⟨⟨⟨⟨⟨⟨⟨⟨⟨⟨⟨⟨⟨⟨trivial, ?_⟩, ?_⟩, ?_⟩, ?_⟩, ?_⟩, ?_⟩, ?_⟩, ?_⟩, ?_⟩, ?_⟩, ?_⟩, ?_⟩, ?_⟩, ?_⟩, ?_⟩, ?_⟩, ?_⟩, ?_⟩, ?_⟩, ?_⟩, ?_⟩, ?_⟩, ?_⟩, ?_⟩, ?_⟩, ?_⟩, ?_⟩, ?_⟩, ?_⟩, ?_⟩, ?_⟩, ?_⟩, ?_⟩, ?_⟩, ?_⟩, ?_⟩, ?_⟩, ?_⟩, ?_⟩, ?_⟩, ?_⟩, ?_⟩, ?_⟩, ?_⟩, ?_⟩, ?_⟩, ?_⟩, ?_⟩, ?_⟩, ?_⟩
                  · refine Owes.q 71 (fun u => [(6, .pointer (some ⟨bj, 0, none⟩))]) fun u w' hI hR => ?_; dsimp only [frm, List.foldl, List.replicate, List.set]; clear hI hst hR; go_wp2; exact ⟨rfl, _, rfl, rfl, rfl⟩
                  · refine Owes.q 71 (fun u => [(19, u 0)]) fun u w' hI hR => ?_; dsimp only [frm, List.foldl, List.replicate, List.set]; obtain ⟨_, hI⟩ := hI; have k0 := keep_cell hI D0; have e0 : u 0 = _ := hR 0 (by decide); rw [e0]; clear hI hst hR; go_wp2; exact ⟨rfl, _, rfl, rfl, rfl⟩
                  · refine Owes.mk _ rfl rfl (fun _ _ h => by cases h) fun u m w' hm hI hR => ⟨⟨(frm 71 [(20, u 1)]).toArray, []⟩, rfl, fun d hd => by cases hd; exact frm_lt (by decide), ?_⟩
                    dsimp only [frm, List.foldl, List.replicate, List.set]
                    have e1 : u 1 = _ := hR 1 (by decide)
                    have k0 := keep_cell hI D0
                    have k1 := keep_cell hI D1
                    have k2 := keep_cell hI D2
                    have k3 := keep_cell hI D3
                    have k4 := keep_cell hI D4
                    have k5 := keep_cell hI S2
                    have k6 := keep_cell hI A0
                    have k7 := keep_cell hI X2
                    have k8 := keep_cell hI Y0
                    have k9 := keep_cell hI Z0
                    have k10 := keep_cell hI S5
                    rw [e1]
                    clear e1
                    have HI := Lib.hid hI
                    clear hI hst
                    go_wp2_with fail
                    refine (l1In_v HWho.out _).mono ?_
                    rintro e w5 ⟨rfl, rfl⟩
                    go_wp2
                    exact ⟨rfl, _, rfl, rfl, HI.out, fun _ _ h => h⟩
                  · refine Owes.q 71 (fun u => [(21, u 2)]) fun u w' hI hR => ?_; dsimp only [frm, List.foldl, List.replicate, List.set]; have e2 : u 2 = _ := hR 2 (by decide); rw [e2]; clear hI hst hR; go_wp2; exact ⟨rfl, _, rfl, rfl, rfl⟩
                  · refine Owes.q 71 (fun u => [(22, u 3)]) fun u w' hI hR => ?_; dsimp only [frm, List.foldl, List.replicate, List.set]; have e3 : u 3 = _ := hR 3 (by decide); rw [e3]; clear hI hst hR; go_wp2; exact ⟨rfl, _, rfl, rfl, rfl⟩
                  · refine Owes.qG 71 (fun u => [(6, .pointer (some ⟨bj, 0, none⟩))]) fun u w' hI hR => ?_; dsimp only [frm, List.foldl, List.replicate, List.set]; clear hI hst hR; go_wp2; exact ⟨rfl, _, rfl, rfl, rfl⟩
                  · refine Owes.qG 71 (fun u => [(24, u 5)]) fun u w' hI hR => ?_; dsimp only [frm, List.foldl, List.replicate, List.set]; obtain ⟨_, hI⟩ := hI; have k1 := keep_cell hI D1; have e5 : u 5 = _ := hR 5 (by decide); rw [e5]; clear hI hst hR; go_wp2; exact ⟨rfl, _, rfl, rfl, rfl⟩
                  · refine Owes.qG 71 (fun u => [(3, .pointer (some ⟨w.heap.size + 1, 0, none⟩))]) fun u w' hI hR => ?_; dsimp only [frm, List.foldl, List.replicate, List.set]; clear hI hst hR; go_wp2; exact ⟨rfl, _, rfl, rfl, rfl⟩
                  · refine Owes.qG 71 (fun u => [(26, u 7)]) fun u w' hI hR => ?_; dsimp only [frm, List.foldl, List.replicate, List.set]; obtain ⟨_, hI⟩ := hI; have k5 := keep_cell hI S2; have e7 : u 7 = _ := hR 7 (by decide); rw [e7]; clear hI hst hR; go_wp2; exact ⟨rfl, _, rfl, rfl, rfl⟩
                  · refine Owes.qG 71 (fun u => [(6, .pointer (some ⟨bj, 0, none⟩))]) fun u w' hI hR => ?_; dsimp only [frm, List.foldl, List.replicate, List.set]; clear hI hst hR; go_wp2; exact ⟨rfl, _, rfl, rfl, rfl⟩
                  · refine Owes.qG 71 (fun u => [(28, u 9)]) fun u w' hI hR => ?_; dsimp only [frm, List.foldl, List.replicate, List.set]; obtain ⟨_, hI⟩ := hI; have k0 := keep_cell hI D0; have e9 : u 9 = _ := hR 9 (by decide); rw [e9]; clear hI hst hR; go_wp2; exact ⟨rfl, _, rfl, rfl, rfl⟩
                  · refine Owes.qG 71 (fun u => [(27, u 8), (29, u 10)]) fun u w' hI hR => ?_; dsimp only [frm, List.foldl, List.replicate, List.set]; have e8 : u 8 = _ := hR 8 (by decide); have e10 : u 10 = _ := hR 10 (by decide); rw [e8, e10]; clear hI hst hR; go_wp2; exact ⟨rfl, _, rfl, rfl, rfl⟩
                  · refine Owes.qG 71 (fun u => [(30, u 11)]) fun u w' hI hR => ?_; dsimp only [frm, List.foldl, List.replicate, List.set]; obtain ⟨_, hI⟩ := hI; have k6 := keep_cell hI A0; have e11 : u 11 = _ := hR 11 (by decide); rw [e11]; clear hI hst hR; go_wp2; exact ⟨rfl, _, rfl, rfl, rfl⟩
                  · refine Owes.mkG _ _ rfl rfl (fun _ _ h => by cases h) fun u m w' hm hI hR => ⟨⟨(frm 71 [(31, u 12)]).toArray, []⟩, rfl, fun d hd => by cases hd; exact frm_lt (by decide), ?_⟩
                    dsimp only [frm, List.foldl, List.replicate, List.set]
                    have e12 : u 12 = _ := hR 12 (by decide)
                    have k0 := keep_cell hI D0
                    have k1 := keep_cell hI D1
                    have k2 := keep_cell hI D2
                    have k3 := keep_cell hI D3
                    have k4 := keep_cell hI D4
                    have k5 := keep_cell hI S2
                    have k6 := keep_cell hI A0
                    have k7 := keep_cell hI X2
                    have k8 := keep_cell hI Y0
                    have k9 := keep_cell hI Z0
                    have k10 := keep_cell hI S5
                    rw [e12]
                    clear e12
                    have HI := Lib.hid hI
                    clear hI hst hR
                    go_wp2
                    exact ⟨rfl, _, rfl, (by show _ = _; go_num), HI.out, fun _ _ h => h⟩
                  · refine Owes.mkG _ _ rfl rfl (fun _ _ h => by cases h) fun u m w' hm hI hR => ⟨⟨(frm 71 [(25, u 6), (32, u 13)]).toArray, []⟩, rfl, fun d hd => by cases hd; exact frm_lt (by decide), ?_⟩
                    dsimp only [frm, List.foldl, List.replicate, List.set]
                    have e6 : u 6 = _ := hR 6 (by decide)
                    have e13 : u 13 = _ := hR 13 (by decide)
                    have k0 := keep_cell hI D0
                    have k1 := keep_cell hI D1
                    have k2 := keep_cell hI D2
                    have k3 := keep_cell hI D3
                    have k4 := keep_cell hI D4
                    have k5 := keep_cell hI S2
                    have k6 := keep_cell hI A0
                    have k7 := keep_cell hI X2
                    have k8 := keep_cell hI Y0
                    have k9 := keep_cell hI Z0
                    have k10 := keep_cell hI S5
                    rw [e6, e13]
                    clear e6 e13
                    have HI := Lib.hid hI
                    clear hI hst
                    go_wp2_with fail
                    refine (l1In_v HN.out _).mono ?_
                    rintro e w5 ⟨rfl, rfl⟩
                    go_wp2
                    exact ⟨rfl, _, rfl, rfl, HI.out, fun _ _ h => h⟩
                  · refine Owes.qG 71 (fun u => [(33, u 14)]) fun u w' hI hR => ?_; dsimp only [frm, List.foldl, List.replicate, List.set]; have e14 : u 14 = _ := hR 14 (by decide); rw [e14]; clear hI hst hR; go_wp2; exact ⟨rfl, _, rfl, rfl, rfl⟩
                  · refine Owes.q 71 (fun u => [(23, u 4), (34, u 15)]) fun u w' hI hR => ?_; dsimp only [frm, List.foldl, List.replicate, List.set]; have e4 : u 4 = _ := hR 4 (by decide); have e15 : u 15 = _ := hR 15 (by decide); rw [e4, e15]; clear hI hst hR; go_wp2; exact ⟨rfl, _, rfl, rfl, rfl⟩
                  · refine Owes.q 71 (fun u => [(35, u 16)]) fun u w' hI hR => ?_; dsimp only [frm, List.foldl, List.replicate, List.set]; have e16 : u 16 = _ := hR 16 (by decide); rw [e16]; clear hI hst hR; go_wp2; exact ⟨rfl, _, rfl, rfl, rfl⟩
                  · refine Owes.qG 71 (fun u => [(6, .pointer (some ⟨bj, 0, none⟩))]) fun u w' hI hR => ?_; dsimp only [frm, List.foldl, List.replicate, List.set]; clear hI hst hR; go_wp2; exact ⟨rfl, _, rfl, rfl, rfl⟩
                  · refine Owes.qG 71 (fun u => [(37, u 18)]) fun u w' hI hR => ?_; dsimp only [frm, List.foldl, List.replicate, List.set]; obtain ⟨_, hI⟩ := hI; have k2 := keep_cell hI D2; have k3 := keep_cell hI D3; have k4 := keep_cell hI D4; have e18 : u 18 = _ := hR 18 (by decide); rw [e18]; clear hI hst hR; go_wp2; exact ⟨rfl, _, rfl, rfl, rfl⟩
                  · refine Owes.mkG _ _ rfl rfl (fun _ _ h => by cases h) fun u m w' hm hI hR => ⟨⟨(frm 71 [(38, u 19)]).toArray, []⟩, rfl, fun d hd => by cases hd; exact frm_lt (by decide), ?_⟩
                    dsimp only [frm, List.foldl, List.replicate, List.set]
                    have e19 : u 19 = _ := hR 19 (by decide)
                    have k0 := keep_cell hI D0
                    have k1 := keep_cell hI D1
                    have k2 := keep_cell hI D2
                    have k3 := keep_cell hI D3
                    have k4 := keep_cell hI D4
                    have k5 := keep_cell hI S2
                    have k6 := keep_cell hI A0
                    have k7 := keep_cell hI X2
                    have k8 := keep_cell hI Y0
                    have k9 := keep_cell hI Z0
                    have k10 := keep_cell hI S5
                    rw [e19]
                    clear e19
                    have GD6 := Lib.hid (SlR.below intR_fits GD4.out hI)
                    have HI := Lib.hid hI
                    clear hI hR
                    go_wp2_with fail
                    refine (sRspOk_any ⟨ji, jc, jd⟩ _ df _ GD6.out).mono ?_
                    rw [HRk.out]
                    rintro e w5 ⟨rfl, b5⟩
                    have HS5 := Lib.hid (facts_stable hst (b5.chg []))
                    have HI5 := Lib.hid (HI.out.trans (b5.mono HI.out.size))
                    clear b5 hst
                    go_wp2
                    exact ⟨rfl, _, rfl, rfl, HI5.out, HS5.out⟩
                  · refine Owes.qG 71 (fun u => [(39, u 20)]) fun u w' hI hR => ?_; dsimp only [frm, List.foldl, List.replicate, List.set]; have e20 : u 20 = _ := hR 20 (by decide); rw [e20]; clear hI hst hR; go_wp2; exact ⟨rfl, _, rfl, rfl, rfl⟩
                  · refine Owes.q 71 (fun u => [(36, u 17), (40, u 21)]) fun u w' hI hR => ?_; dsimp only [frm, List.foldl, List.replicate, List.set]; have e17 : u 17 = _ := hR 17 (by decide); have e21 : u 21 = _ := hR 21 (by decide); rw [e17, e21]; clear hI hst hR; go_wp2; exact ⟨rfl, _, rfl, rfl, rfl⟩
                  · refine Owes.q 71 (fun u => [(41, u 22)]) fun u w' hI hR => ?_; dsimp only [frm, List.foldl, List.replicate, List.set]; have e22 : u 22 = _ := hR 22 (by decide); rw [e22]; clear hI hst hR; go_wp2; exact ⟨rfl, _, rfl, rfl, rfl⟩
                  · refine Owes.qG 71 (fun u => [(6, .pointer (some ⟨bj, 0, none⟩))]) fun u w' hI hR => ?_; dsimp only [frm, List.foldl, List.replicate, List.set]; clear hI hst hR; go_wp2; exact ⟨rfl, _, rfl, rfl, rfl⟩
                  · refine Owes.qG 71 (fun u => [(43, u 24)]) fun u w' hI hR => ?_; dsimp only [frm, List.foldl, List.replicate, List.set]; have e24 : u 24 = _ := hR 24 (by decide); rw [e24]; clear hI hst hR; go_wp2; exact ⟨rfl, _, rfl, rfl, rfl⟩
                  · refine Owes.qG 71 (fun u => [(44, u 25)]) fun u w' hI hR => ?_; dsimp only [frm, List.foldl, List.replicate, List.set]; obtain ⟨_, hI⟩ := hI; have k2 := keep_cell hI D2; have e25 : u 25 = _ := hR 25 (by decide); rw [e25]; clear hI hst hR; go_wp2; exact ⟨rfl, _, rfl, rfl, rfl⟩
                  · refine Owes.qG 71 (fun u => [(2, .pointer (some ⟨w.heap.size, 0, none⟩))]) fun u w' hI hR => ?_; dsimp only [frm, List.foldl, List.replicate, List.set]; clear hI hst hR; go_wp2; exact ⟨rfl, _, rfl, rfl, rfl⟩
                  · refine Owes.qG 71 (fun u => [(46, u 27)]) fun u w' hI hR => ?_; dsimp only [frm, List.foldl, List.replicate, List.set]; obtain ⟨_, hI⟩ := hI; have k7 := keep_cell hI X2; have e27 : u 27 = _ := hR 27 (by decide); rw [e27]; clear hI hst hR; go_wp2; exact ⟨rfl, _, rfl, rfl, rfl⟩
                  · refine Owes.qG 71 (fun u => [(6, .pointer (some ⟨bj, 0, none⟩))]) fun u w' hI hR => ?_; dsimp only [frm, List.foldl, List.replicate, List.set]; clear hI hst hR; go_wp2; exact ⟨rfl, _, rfl, rfl, rfl⟩
                  · refine Owes.qG 71 (fun u => [(48, u 29)]) fun u w' hI hR => ?_; dsimp only [frm, List.foldl, List.replicate, List.set]; obtain ⟨_, hI⟩ := hI; have k0 := keep_cell hI D0; have e29 : u 29 = _ := hR 29 (by decide); rw [e29]; clear hI hst hR; go_wp2; exact ⟨rfl, _, rfl, rfl, rfl⟩
                  · refine Owes.qG 71 (fun u => [(47, u 28), (49, u 30)]) fun u w' hI hR => ?_; dsimp only [frm, List.foldl, List.replicate, List.set]; have e28 : u 28 = _ := hR 28 (by decide); have e30 : u 30 = _ := hR 30 (by decide); rw [e28, e30]; clear hI hst hR; go_wp2; exact ⟨rfl, _, rfl, rfl, rfl⟩
                  · refine Owes.qG 71 (fun u => [(50, u 31)]) fun u w' hI hR => ?_; dsimp only [frm, List.foldl, List.replicate, List.set]; obtain ⟨_, hI⟩ := hI; have k8 := keep_cell hI Y0; have e31 : u 31 = _ := hR 31 (by decide); rw [e31]; clear hI hst hR; go_wp2; exact ⟨rfl, _, rfl, rfl, rfl⟩
                  · refine Owes.qG 71 (fun u => [(6, .pointer (some ⟨bj, 0, none⟩))]) fun u w' hI hR => ?_; dsimp only [frm, List.foldl, List.replicate, List.set]; clear hI hst hR; go_wp2; exact ⟨rfl, _, rfl, rfl, rfl⟩
                  · refine Owes.qG 71 (fun u => [(52, u 33)]) fun u w' hI hR => ?_; dsimp only [frm, List.foldl, List.replicate, List.set]; obtain ⟨_, hI⟩ := hI; have k1 := keep_cell hI D1; have e33 : u 33 = _ := hR 33 (by decide); rw [e33]; clear hI hst hR; go_wp2; exact ⟨rfl, _, rfl, rfl, rfl⟩
                  · refine Owes.qG 71 (fun u => [(51, u 32), (53, u 34)]) fun u w' hI hR => ?_; dsimp only [frm, List.foldl, List.replicate, List.set]; have e32 : u 32 = _ := hR 32 (by decide); have e34 : u 34 = _ := hR 34 (by decide); rw [e32, e34]; clear hI hst hR; go_wp2; exact ⟨rfl, _, rfl, rfl, rfl⟩
                  · refine Owes.qG 71 (fun u => [(54, u 35)]) fun u w' hI hR => ?_; dsimp only [frm, List.foldl, List.replicate, List.set]; have e35 : u 35 = _ := hR 35 (by decide); rw [e35]; clear hI hst hR; go_wp2; exact ⟨rfl, _, rfl, rfl, rfl⟩
                  · refine Owes.qG 71 (fun u => [(55, u 36)]) fun u w' hI hR => ?_; dsimp only [frm, List.foldl, List.replicate, List.set]; obtain ⟨_, hI⟩ := hI; have k9 := keep_cell hI Z0; have e36 : u 36 = _ := hR 36 (by decide); rw [e36]; clear hI hst hR; go_wp2; exact ⟨rfl, _, rfl, rfl, rfl⟩
                  · refine Owes.qG 71 (fun u => [(45, u 26), (56, u 37)]) fun u w' hI hR => ?_; dsimp only [frm, List.foldl, List.replicate, List.set]; have e26 : u 26 = _ := hR 26 (by decide); have e37 : u 37 = _ := hR 37 (by decide); rw [e26, e37]; clear hI hst hR; go_wp2; exact ⟨rfl, _, rfl, rfl, rfl⟩
                  · refine Owes.q 71 (fun u => [(42, u 23), (57, u 38)]) fun u w' hI hR => ?_; dsimp only [frm, List.foldl, List.replicate, List.set]; have e23 : u 23 = _ := hR 23 (by decide); have e38 : u 38 = _ := hR 38 (by decide); rw [e23, e38]; clear hI hst hR; go_wp2; exact ⟨rfl, _, rfl, rfl, rfl⟩
                  · refine Owes.q 71 (fun u => [(58, u 39)]) fun u w' hI hR => ?_; dsimp only [frm, List.foldl, List.replicate, List.set]; have e39 : u 39 = _ := hR 39 (by decide); rw [e39]; clear hI hst hR; go_wp2; exact ⟨rfl, _, rfl, rfl, rfl⟩
                  · refine Owes.qG 71 (fun u => [(3, .pointer (some ⟨w.heap.size + 1, 0, none⟩))]) fun u w' hI hR => ?_; dsimp only [frm, List.foldl, List.replicate, List.set]; clear hI hst hR; go_wp2; exact ⟨rfl, _, rfl, rfl, rfl⟩
                  · refine Owes.qG 71 (fun u => [(60, u 41)]) fun u w' hI hR => ?_; dsimp only [frm, List.foldl, List.replicate, List.set]; obtain ⟨_, hI⟩ := hI; have k10 := keep_cell hI S5; have e41 : u 41 = _ := hR 41 (by decide); rw [e41]; clear hI hst hR; go_wp2; exact ⟨rfl, _, rfl, rfl, rfl⟩
                  · refine Owes.qG 71 (fun u => [(5, .int .i64 (k : Int))]) fun u w' hI hR => ?_; dsimp only [frm, List.foldl, List.replicate, List.set]; clear hI hst hR; go_wp2; exact ⟨rfl, _, rfl, rfl, rfl⟩
                  · refine Owes.qG 71 (fun u => [(61, u 42), (62, u 43)]) fun u w' hI hR => ?_; dsimp only [frm, List.foldl, List.replicate, List.set]; have e42 : u 42 = _ := hR 42 (by decide); have e43 : u 43 = _ := hR 43 (by decide); rw [e42, e43]; clear hI hst hR; go_wp2; exact ⟨rfl, _, rfl, rfl, rfl⟩
                  · refine Owes.qG 71 (fun u => [(6, .pointer (some ⟨bj, 0, none⟩))]) fun u w' hI hR => ?_; dsimp only [frm, List.foldl, List.replicate, List.set]; clear hI hst hR; go_wp2; exact ⟨rfl, _, rfl, rfl, rfl⟩
                  · refine Owes.qG 71 (fun u => [(64, u 45)]) fun u w' hI hR => ?_; dsimp only [frm, List.foldl, List.replicate, List.set]; obtain ⟨_, hI⟩ := hI; have k0 := keep_cell hI D0; have e45 : u 45 = _ := hR 45 (by decide); rw [e45]; clear hI hst hR; go_wp2; exact ⟨rfl, _, rfl, rfl, rfl⟩
                  · refine Owes.qG 71 (fun u => [(6, .pointer (some ⟨bj, 0, none⟩))]) fun u w' hI hR => ?_; dsimp only [frm, List.foldl, List.replicate, List.set]; clear hI hst hR; go_wp2; exact ⟨rfl, _, rfl, rfl, rfl⟩
                  · refine Owes.qG 71 (fun u => [(66, u 47)]) fun u w' hI hR => ?_; dsimp only [frm, List.foldl, List.replicate, List.set]; obtain ⟨_, hI⟩ := hI; have k1 := keep_cell hI D1; have e47 : u 47 = _ := hR 47 (by decide); rw [e47]; clear hI hst hR; go_wp2; exact ⟨rfl, _, rfl, rfl, rfl⟩
                  · refine Owes.mkG _ _ rfl rfl (fun _ _ h => by cases h) fun u m w' hm hI hR => ⟨⟨(frm 71 [(63, u 44), (65, u 46), (67, u 48)]).toArray, []⟩, rfl, fun d hd => by cases hd; exact frm_lt (by decide), ?_⟩
                    dsimp only [frm, List.foldl, List.replicate, List.set]
                    have e44 : u 44 = _ := hR 44 (by decide)
                    have e46 : u 46 = _ := hR 46 (by decide)
                    have e48 : u 48 = _ := hR 48 (by decide)
                    have k0 := keep_cell hI D0
                    have k1 := keep_cell hI D1
                    have k2 := keep_cell hI D2
                    have k3 := keep_cell hI D3
                    have k4 := keep_cell hI D4
                    have k5 := keep_cell hI S2
                    have k6 := keep_cell hI A0
                    have k7 := keep_cell hI X2
                    have k8 := keep_cell hI Y0
                    have k9 := keep_cell hI Z0
                    have k10 := keep_cell hI S5
                    rw [e44, e46, e48]
                    clear e44 e46 e48
                    have GT6 := Lib.hid (SlR.below jobR_fits GT4.out hI)
                    have HI := Lib.hid hI
                    clear hI hR
                    go_wp2_with fail
                    refine (l5At_any _ _ ft uu ii _ GT6.out).mono ?_
                    rw [HZ.out]
                    rintro e w5 ⟨rfl, rfl⟩
                    clear hst
                    go_wp2
                    exact ⟨rfl, _, rfl, rfl, HI.out, fun _ _ h => h⟩
                case hend =>
                  intro u w' hI hR
                  simp only [setAll, List.set_cons_zero, List.set_cons_succ]
                  have e40 : u 40 = _ := hR 40 (by decide)
                  have e49 : u 49 = _ := hR 49 (by decide)
                  rw [e40, e49]
                  clear e40 e49
                  have HB5 := Lib.hid (B4.out.trans (hI.mono B4.out.size))
                  clear hR hst hI D0 D1 D2 D3 D4 S2 A0 X2 Y0 Z0 S5
                  go_wp2
                  go_ret
                  exact ⟨ret_bool (told_no2 (fresh_no hL (by rw [HJ.out]; exact HNew.out))).symm, HB5.out⟩
    · go_wp2
      go_ret
      exact ⟨ret_bool (told_yes (fun j h => HG.out j h (by rw [hn.out] at h; omega)) (fresh_yes HR.out (by rw [hn.out]; omega))).symm, HB.out⟩

end Go.Proofs.Ytmmojgopeaelcaa
