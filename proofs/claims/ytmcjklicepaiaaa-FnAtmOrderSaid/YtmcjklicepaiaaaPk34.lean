/-
 Texts of this claim laid together: CrJobs.
-/
import Derived.Test.YtmcjklicepaiaaaProg
import Derived.Test.YtmcjklicepaiaaaPk08
import Derived.Test.YtmcjklicepaiaaaPk05
import Derived.Test.YtmcjklicepaiaaaPk33
import Derived.Test.YtmcjklicepaiaaaPk16
import Derived.Test.YtmcjklicepaiaaaPk21
import Derived.Test.YtmcjklicepaiaaaPk07
import Derived.StillTailTactics
import Derived.Deep.Cut
import Derived.Deep.QuietTactic
import Derived.BigQuiet
import Derived.WalkSmall
set_option linter.unusedVariables false
set_option linter.unusedSimpArgs false
namespace Go.Proofs.Ytmcjklicepaiaaa
def tbcrJobs6 : List (List Nat) := [[], [], [0, 1], [0, 1, 2], [0, 1, 2, 3], [], [], [5, 6], [5, 6, 7], [5, 6, 7, 8], [0, 1, 2, 3, 4, 5, 6, 7, 8, 9], [0, 1, 2, 3, 4, 5, 6, 7, 8, 9, 10], [0, 1, 2, 3, 4, 5, 6, 7, 8, 9, 10, 11], [0, 1, 2, 3, 4, 5, 6, 7, 8, 9, 10, 11], [0, 1, 2, 3, 4, 5, 6, 7, 8, 9, 10, 11, 12, 13], [0, 1, 2, 3, 4, 5, 6, 7, 8, 9, 10, 11, 12, 13, 14], [0, 1, 2, 3, 4, 5, 6, 7, 8, 9, 10, 11, 12, 13, 14, 15], [0, 1, 2, 3, 4, 5, 6, 7, 8, 9, 10, 11], [0, 1, 2, 3, 4, 5, 6, 7, 8, 9, 10, 11], [0, 1, 2, 3, 4, 5, 6, 7, 8, 9, 10, 11, 17, 18], [0, 1, 2, 3, 4, 5, 6, 7, 8, 9, 10, 11, 17, 18, 19], [0, 1, 2, 3, 4, 5, 6, 7, 8, 9, 10, 11, 17, 18, 19, 20], [0, 1, 2, 3, 4, 5, 6, 7, 8, 9, 10, 11, 12, 13, 14, 15, 16, 17, 18, 19, 20, 21], [0, 1, 2, 3, 4, 5, 6, 7, 8, 9, 10, 11, 12, 13, 14, 15, 16, 17, 18, 19, 20, 21, 22], [0, 1, 2, 3, 4, 5, 6, 7, 8, 9, 10, 11, 12, 13, 14, 15, 16, 17, 18, 19, 20, 21, 22, 23], [0, 1, 2, 3, 4, 5, 6, 7, 8, 9, 10, 11, 12, 13, 14, 15, 16, 17, 18, 19, 20, 21, 22, 23, 24], [0, 1, 2, 3, 4, 5, 6, 7, 8, 9, 10, 11, 12, 13, 14, 15, 16, 17, 18, 19, 20, 21, 22, 23, 24], [0, 1, 2, 3, 4, 5, 6, 7, 8, 9, 10, 11, 12, 13, 14, 15, 16, 17, 18, 19, 20, 21, 22, 23, 24, 25, 26], [0, 1, 2, 3, 4, 5, 6, 7, 8, 9, 10, 11, 12, 13, 14, 15, 16, 17, 18, 19, 20, 21, 22, 23, 24, 25, 26, 27], [0, 1, 2, 3, 4, 5, 6, 7, 8, 9, 10, 11, 12, 13, 14, 15, 16, 17, 18, 19, 20, 21, 22, 23, 24, 25, 26, 27, 28], [0, 1, 2, 3, 4, 5, 6, 7, 8, 9, 10, 11, 12, 13, 14, 15, 16, 17, 18, 19, 20, 21, 22, 23, 24], [0, 1, 2, 3, 4, 5, 6, 7, 8, 9, 10, 11, 12, 13, 14, 15, 16, 17, 18, 19, 20, 21, 22, 23, 24], [0, 1, 2, 3, 4, 5, 6, 7, 8, 9, 10, 11, 12, 13, 14, 15, 16, 17, 18, 19, 20, 21, 22, 23, 24, 30, 31], [0, 1, 2, 3, 4, 5, 6, 7, 8, 9, 10, 11, 12, 13, 14, 15, 16, 17, 18, 19, 20, 21, 22, 23, 24, 30, 31, 32], [0, 1, 2, 3, 4, 5, 6, 7, 8, 9, 10, 11, 12, 13, 14, 15, 16, 17, 18, 19, 20, 21, 22, 23, 24, 30, 31, 32, 33], [0, 1, 2, 3, 4, 5, 6, 7, 8, 9, 10, 11, 12, 13, 14, 15, 16, 17, 18, 19, 20, 21, 22, 23, 24, 25, 26, 27, 28, 29, 30, 31, 32, 33, 34], [0, 1, 2, 3, 4, 5, 6, 7, 8, 9, 10, 11, 12, 13, 14, 15, 16, 17, 18, 19, 20, 21, 22, 23, 24, 25, 26, 27, 28, 29, 30, 31, 32, 33, 34, 35], [0, 1, 2, 3, 4, 5, 6, 7, 8, 9, 10, 11, 12, 13, 14, 15, 16, 17, 18, 19, 20, 21, 22, 23, 24, 25, 26, 27, 28, 29, 30, 31, 32, 33, 34, 35, 36]]
open Go.RowKit Go.ChangeShapes Go.WideShapes
set_option maxRecDepth 100000 in
set_option maxHeartbeats 1600000 in
theorem crRsp_same (x : Rsp) (v1 v2 : Value) (fp1 fp2 : List Nat) (w : World) (g1 : SlR 1 intR w x.data v1 fp1) (g2 : SlR 1 intR w x.data v2 fp2) :
 Calls Try.prog 80 #[.agg #[.int .i64 x.id, .int .i64 x.code, v1], .agg #[.int .i64 x.id, .int .i64 x.code, v2]] w fun e w' => e = .returned (.bool true) ∧ Below w.heap.size w w' := by
 obtain ⟨a1, n1, c1, rfl⟩ := g1.form
 obtain ⟨a2, n2, c2, rfl⟩ := g2.form
 obtain ⟨w0, hw0⟩ : ∃ w0, w0 = (w.alloc (.cells #[.int .i64 x.id, .int .i64 x.code, .slice a1 n1 c1] 62)).alloc (.cells #[.int .i64 x.id, .int .i64 x.code, .slice a2 n2 c2] 62) := ⟨_, rfl⟩
 have hb0 : Below w.heap.size w w0 := by rw [hw0]; exact (below_alloc w _).trans ((below_alloc _ _).mono (by simp))
 have X0 : w0.cell? ⟨w.heap.size, 0, none⟩ = some (.int .i64 x.id) := by rw [hw0]; exact alloc_keep (alloc1_new _ _ _ 0 rfl) _
 have X1 : w0.cell? ⟨w.heap.size, 1, none⟩ = some (.int .i64 x.code) := by rw [hw0]; exact alloc_keep (alloc1_new _ _ _ 1 rfl) _
 have X2 : w0.cell? ⟨w.heap.size, 2, none⟩ = some (.slice a1 n1 c1) := by rw [hw0]; exact alloc_keep (alloc1_new _ _ _ 2 rfl) _
 have Y0 : w0.cell? ⟨w.heap.size + 1, 0, none⟩ = some (.int .i64 x.id) := by rw [hw0]; exact alloc2_new _ _ _ _ _ 0 rfl
 have Y1 : w0.cell? ⟨w.heap.size + 1, 1, none⟩ = some (.int .i64 x.code) := by rw [hw0]; exact alloc2_new _ _ _ _ _ 1 rfl
 have Y2 : w0.cell? ⟨w.heap.size + 1, 2, none⟩ = some (.slice a2 n2 c2) := by rw [hw0]; exact alloc2_new _ _ _ _ _ 2 rfl
 have G1 := Lib.hid (SlR.below intR_fits g1 hb0)
 have G2 := Lib.hid (SlR.below intR_fits g2 hb0)
 have B := Lib.hid hb0
 clear g1 g2 hb0
 go_enter Try.func80, Try.ntmps80
 go_upto_region 1 with fail
 rw [<- hw0]
 clear hw0
 go_wp2_with fail
 refine (crInts_any _ _ _ _ fp1 fp2 _ G1.out G2.out).mono ?_
 rw [decide_eq_true rfl]
 rintro e w4 ⟨rfl, nd, hw4⟩
 have b4 : Below w0.heap.size w0 w4 := by subst hw4; exact below_drewN (Below.refl _ _) nd
 have B4 := Lib.hid (B.out.trans (b4.mono B.out.size))
 clear b4 hw4 X0 X1 X2 Y0 Y1 Y2
 go_wp2
 go_ret
 exact ⟨rfl, B4.out⟩
set_option maxRecDepth 100000 in
set_option maxHeartbeats 1600000 in
theorem crJobs_same (v1 v2 : Value) (l : List Job) (fp1 fp2 : List Nat) (w : World) (g1 : SlR 5 jobR w l v1 fp1) (g2 : SlR 5 jobR w l v2 fp2) :
 Calls Try.prog 33 #[v1, v2] w fun e w' => e = .returned (.bool true) ∧ Below w.heap.size w w' := by
 obtain ⟨a1, n1, c1, rfl, hn1, k1, m1, _, r1⟩ := g1.opened
 obtain ⟨a2, n2, c2, rfl, hn2, k2, m2, _, r2⟩ := g2.opened
 obtain rfl : n2 = n1 := by rw [<- hn1.out, <- hn2.out]
 clear g1 g2
 go_enter Try.func33, Try.ntmps33
 go_wp2_with fail
 go_loopw [5] (fun i wr => ∃ k : Nat, k <= n2 ∧ i = .int .i64 k ∧ Below w.heap.size w wr) (fun i _ => n2 - (intOf i).toNat)
 case atStart => exact ⟨0, Nat.zero_le _, rfl, Below.refl _ _⟩
 case round =>
  obtain ⟨k, hk, rfl, hb⟩ := hrel
  have HB := Lib.hid hb
  clear hb
  by_cases hlt : k < n2
  · have hlti : (k : Int) < (n2 : Int) := by omega
    obtain ⟨i1, b1, o1, f1, cs1, rfl, _, _, _, ⟨dv1, df1, rfl, rfl, hd1⟩, e1⟩ := r1 k hlt
    obtain ⟨i2, b2, o2, f2, cs2, rfl, _, _, _, ⟨dv2, df2, rfl, rfl, hd2⟩, e2⟩ := r2 k hlt
    obtain ⟨y, hy⟩ : ∃ z, z = l[k] := ⟨_, rfl⟩
    rw [<- hy] at hd1 hd2
    have p0 := keep_cell HB.out (e1 0 (by simp))
    have p1 := keep_cell HB.out (e1 1 (by simp))
    have p2 := keep_cell HB.out (e1 2 (by simp))
    have p3 := keep_cell HB.out (e1 3 (by simp))
    have p4 := keep_cell HB.out (e1 4 (by simp))
    have q0 := keep_cell HB.out (e2 0 (by simp))
    have q1 := keep_cell HB.out (e2 1 (by simp))
    have q2 := keep_cell HB.out (e2 2 (by simp))
    have q3 := keep_cell HB.out (e2 3 (by simp))
    have q4 := keep_cell HB.out (e2 4 (by simp))
    simp only [Nat.add_zero, List.getElem_cons_zero, List.getElem_cons_succ] at p0 p1 p2 p3 p4 q0 q1 q2 q3 q4
    rw [<- hy] at p0 p1 p2 p3 q0 q1 q2 q3
    have G1 := Lib.hid (SlR.below intR_fits hd1 HB.out)
    have G2 := Lib.hid (SlR.below intR_fits hd2 HB.out)
    clear r1 r2 e1 e2 hy hd1 hd2
    go_wp2_with fail
    have hst : ∀ F, F ∈ [FEq (.slice (some ⟨b1, o1, none⟩) n2 c1), FEq (.int .i64 (k : Int)), FEq (.pointer (some ⟨b1, o1 + k * 5, none⟩)), FEq (.pointer (some ⟨b1, o1 + k * 5, none⟩)), FEq (.int .i64 y.who), FEq (.slice (some ⟨b2, o2, none⟩) n2 c2), FEq (.int .i64 (k : Int)), FEq (.pointer (some ⟨b2, o2 + k * 5, none⟩)), FEq (.pointer (some ⟨b2, o2 + k * 5, none⟩)), FEq (.int .i64 y.who), FEq (.bool false), FEq (.bool false), FEq (.slice (some ⟨b1, o1, none⟩) n2 c1), FEq (.int .i64 (k : Int)), FEq (.pointer (some ⟨b1, o1 + k * 5, none⟩)), FEq (.pointer (some ⟨b1, o1 + k * 5 + 1, none⟩)), FEq (.int .i64 y.n), FEq (.slice (some ⟨b2, o2, none⟩) n2 c2), FEq (.int .i64 (k : Int)), FEq (.pointer (some ⟨b2, o2 + k * 5, none⟩)), FEq (.pointer (some ⟨b2, o2 + k * 5 + 1, none⟩)), FEq (.int .i64 y.n), FEq (.bool false), FEq (.bool false), FEq (.bool false), FEq (.slice (some ⟨b1, o1, none⟩) n2 c1), FEq (.int .i64 (k : Int)), FEq (.pointer (some ⟨b1, o1 + k * 5, none⟩)), FEq (.pointer (some ⟨b1, o1 + k * 5 + 2, none⟩)), FEq (.agg #[.int .i64 y.rsp.id, .int .i64 y.rsp.code, dv1]), FEq (.slice (some ⟨b2, o2, none⟩) n2 c2), FEq (.int .i64 (k : Int)), FEq (.pointer (some ⟨b2, o2 + k * 5, none⟩)), FEq (.pointer (some ⟨b2, o2 + k * 5 + 2, none⟩)), FEq (.agg #[.int .i64 y.rsp.id, .int .i64 y.rsp.code, dv2]), FEq (.bool true), FEq (.bool false), FEq (.bool false)] -> Stable [] F := by
     simp only [List.forall_mem_cons]
     exact ⟨stEq _ _, stEq _ _, stEq _ _, stEq _ _, stEq _ _, stEq _ _, stEq _ _, stEq _ _, stEq _ _, stEq _ _, stEq _ _, stEq _ _, stEq _ _, stEq _ _, stEq _ _, stEq _ _, stEq _ _, stEq _ _, stEq _ _, stEq _ _, stEq _ _, stEq _ _, stEq _ _, stEq _ _, stEq _ _, stEq _ _, stEq _ _, stEq _ _, stEq _ _, stEq _ _, stEq _ _, stEq _ _, stEq _ _, stEq _ _, stEq _ _, stEq _ _, stEq _ _, stEq _ _, fun _ h => by simp at h⟩
    refine wp_region_tail (by kernel_rfl) (fun i => (tbcrJobs6 : List (List Nat)).getD i []) (facts [FEq (.slice (some ⟨b1, o1, none⟩) n2 c1), FEq (.int .i64 (k : Int)), FEq (.pointer (some ⟨b1, o1 + k * 5, none⟩)), FEq (.pointer (some ⟨b1, o1 + k * 5, none⟩)), FEq (.int .i64 y.who), FEq (.slice (some ⟨b2, o2, none⟩) n2 c2), FEq (.int .i64 (k : Int)), FEq (.pointer (some ⟨b2, o2 + k * 5, none⟩)), FEq (.pointer (some ⟨b2, o2 + k * 5, none⟩)), FEq (.int .i64 y.who), FEq (.bool false), FEq (.bool false), FEq (.slice (some ⟨b1, o1, none⟩) n2 c1), FEq (.int .i64 (k : Int)), FEq (.pointer (some ⟨b1, o1 + k * 5, none⟩)), FEq (.pointer (some ⟨b1, o1 + k * 5 + 1, none⟩)), FEq (.int .i64 y.n), FEq (.slice (some ⟨b2, o2, none⟩) n2 c2), FEq (.int .i64 (k : Int)), FEq (.pointer (some ⟨b2, o2 + k * 5, none⟩)), FEq (.pointer (some ⟨b2, o2 + k * 5 + 1, none⟩)), FEq (.int .i64 y.n), FEq (.bool false), FEq (.bool false), FEq (.bool false), FEq (.slice (some ⟨b1, o1, none⟩) n2 c1), FEq (.int .i64 (k : Int)), FEq (.pointer (some ⟨b1, o1 + k * 5, none⟩)), FEq (.pointer (some ⟨b1, o1 + k * 5 + 2, none⟩)), FEq (.agg #[.int .i64 y.rsp.id, .int .i64 y.rsp.code, dv1]), FEq (.slice (some ⟨b2, o2, none⟩) n2 c2), FEq (.int .i64 (k : Int)), FEq (.pointer (some ⟨b2, o2 + k * 5, none⟩)), FEq (.pointer (some ⟨b2, o2 + k * 5 + 2, none⟩)), FEq (.agg #[.int .i64 y.rsp.id, .int .i64 y.rsp.code, dv2]), FEq (.bool true), FEq (.bool false), FEq (.bool false)]) (fun m w' => Below wr.heap.size wr w') 55 38 38 [some 17, some 18, some 19, some 20, some 21, some 22, some 23, some 24, some 25, some 26, some 27, some 28, some 29, some 30, some 31, some 32, some 33, some 34, some 35, some 36, some 37, some 38, some 39, some 40, some 41, some 42, some 43, some 44, some 45, some 46, some 47, some 48, some 49, some 50, some 51, some 52, some 53, some 54] [] rfl rfl (by decide) rfl rfl (by kernel_rfl) (by kernel_rfl) [(11, false), (24, false)] (by kernel_rfl) (fun g b hm v w h => by simp only [List.mem_cons, List.not_mem_nil, or_false, Prod.mk.injEq] at hm; rcases hm with ⟨rfl, rfl⟩ | ⟨rfl, rfl⟩ <;> exact h) ?h0 (all_lt (n := 38) ?hop) ?hend
    case h0 => exact (Below.refl _ _).drew
    case hop =>
     refine ⟨⟨⟨⟨⟨⟨⟨⟨⟨⟨⟨⟨⟨⟨⟨⟨⟨⟨⟨⟨⟨⟨⟨⟨⟨⟨⟨⟨⟨⟨⟨⟨⟨⟨⟨⟨⟨⟨trivial, ?_⟩, ?_⟩, ?_⟩, ?_⟩, ?_⟩, ?_⟩, ?_⟩, ?_⟩, ?_⟩, ?_⟩, ?_⟩, ?_⟩, ?_⟩, ?_⟩, ?_⟩, ?_⟩, ?_⟩, ?_⟩, ?_⟩, ?_⟩, ?_⟩, ?_⟩, ?_⟩, ?_⟩, ?_⟩, ?_⟩, ?_⟩, ?_⟩, ?_⟩, ?_⟩, ?_⟩, ?_⟩, ?_⟩, ?_⟩, ?_⟩, ?_⟩, ?_⟩, ?_⟩
     · refine Owes.q 55 (fun u => [(0, .slice (some ⟨b1, o1, none⟩) n2 c1)]) fun u w' hI hR => ?_; dsimp only [frm, List.foldl, List.replicate, List.set]; clear hI hst hR; go_wp2; exact ⟨rfl, _, rfl, rfl, rfl⟩
     · refine Owes.q 55 (fun u => [(5, .int .i64 (k : Int))]) fun u w' hI hR => ?_; dsimp only [frm, List.foldl, List.replicate, List.set]; clear hI hst hR; go_wp2; exact ⟨rfl, _, rfl, rfl, rfl⟩
     · refine Owes.q 55 (fun u => [(17, u 0), (18, u 1)]) fun u w' hI hR => ?_; dsimp only [frm, List.foldl, List.replicate, List.set]; have e0 : u 0 = _ := hR 0 (by decide); have e1 : u 1 = _ := hR 1 (by decide); rw [e0, e1]; clear hI hst hR; go_wp2; exact ⟨rfl, _, rfl, rfl, rfl⟩
     · refine Owes.q 55 (fun u => [(19, u 2)]) fun u w' hI hR => ?_; dsimp only [frm, List.foldl, List.replicate, List.set]; have e2 : u 2 = _ := hR 2 (by decide); rw [e2]; clear hI hst hR; go_wp2; exact ⟨rfl, _, rfl, rfl, rfl⟩
     · refine Owes.q 55 (fun u => [(20, u 3)]) fun u w' hI hR => ?_; dsimp only [frm, List.foldl, List.replicate, List.set]; obtain ⟨_, hI⟩ := hI; have k0 := keep_cell hI p0; have e3 : u 3 = _ := hR 3 (by decide); rw [e3]; clear hI hst hR; go_wp2; exact ⟨rfl, _, rfl, rfl, rfl⟩
     · refine Owes.q 55 (fun u => [(1, .slice (some ⟨b2, o2, none⟩) n2 c2)]) fun u w' hI hR => ?_; dsimp only [frm, List.foldl, List.replicate, List.set]; clear hI hst hR; go_wp2; exact ⟨rfl, _, rfl, rfl, rfl⟩
     · refine Owes.q 55 (fun u => [(5, .int .i64 (k : Int))]) fun u w' hI hR => ?_; dsimp only [frm, List.foldl, List.replicate, List.set]; clear hI hst hR; go_wp2; exact ⟨rfl, _, rfl, rfl, rfl⟩
     · refine Owes.q 55 (fun u => [(22, u 5), (23, u 6)]) fun u w' hI hR => ?_; dsimp only [frm, List.foldl, List.replicate, List.set]; have e5 : u 5 = _ := hR 5 (by decide); have e6 : u 6 = _ := hR 6 (by decide); rw [e5, e6]; clear hI hst hR; go_wp2; exact ⟨rfl, _, rfl, rfl, rfl⟩
     · refine Owes.q 55 (fun u => [(24, u 7)]) fun u w' hI hR => ?_; dsimp only [frm, List.foldl, List.replicate, List.set]; have e7 : u 7 = _ := hR 7 (by decide); rw [e7]; clear hI hst hR; go_wp2; exact ⟨rfl, _, rfl, rfl, rfl⟩
     · refine Owes.q 55 (fun u => [(25, u 8)]) fun u w' hI hR => ?_; dsimp only [frm, List.foldl, List.replicate, List.set]; obtain ⟨_, hI⟩ := hI; have k5 := keep_cell hI q0; have e8 : u 8 = _ := hR 8 (by decide); rw [e8]; clear hI hst hR; go_wp2; exact ⟨rfl, _, rfl, rfl, rfl⟩
     · refine Owes.q 55 (fun u => [(21, u 4), (26, u 9)]) fun u w' hI hR => ?_; dsimp only [frm, List.foldl, List.replicate, List.set]; have e4 : u 4 = _ := hR 4 (by decide); have e9 : u 9 = _ := hR 9 (by decide); rw [e4, e9]; clear hI hst hR; go_wp2; exact ⟨rfl, _, rfl, rfl, rfl⟩
     · refine Owes.q 55 (fun u => [(27, u 10)]) fun u w' hI hR => ?_; dsimp only [frm, List.foldl, List.replicate, List.set]; have e10 : u 10 = _ := hR 10 (by decide); rw [e10]; clear hI hst hR; go_wp2; exact ⟨rfl, _, rfl, rfl, rfl⟩
     · refine Owes.qG 55 (fun u => [(0, .slice (some ⟨b1, o1, none⟩) n2 c1)]) fun u w' hI hR => ?_; dsimp only [frm, List.foldl, List.replicate, List.set]; clear hI hst hR; go_wp2; exact ⟨rfl, _, rfl, rfl, rfl⟩
     · refine Owes.qG 55 (fun u => [(5, .int .i64 (k : Int))]) fun u w' hI hR => ?_; dsimp only [frm, List.foldl, List.replicate, List.set]; clear hI hst hR; go_wp2; exact ⟨rfl, _, rfl, rfl, rfl⟩
     · refine Owes.qG 55 (fun u => [(29, u 12), (30, u 13)]) fun u w' hI hR => ?_; dsimp only [frm, List.foldl, List.replicate, List.set]; have e12 : u 12 = _ := hR 12 (by decide); have e13 : u 13 = _ := hR 13 (by decide); rw [e12, e13]; clear hI hst hR; go_wp2; exact ⟨rfl, _, rfl, rfl, rfl⟩
     · refine Owes.qG 55 (fun u => [(31, u 14)]) fun u w' hI hR => ?_; dsimp only [frm, List.foldl, List.replicate, List.set]; have e14 : u 14 = _ := hR 14 (by decide); rw [e14]; clear hI hst hR; go_wp2; exact ⟨rfl, _, rfl, rfl, rfl⟩
     · refine Owes.qG 55 (fun u => [(32, u 15)]) fun u w' hI hR => ?_; dsimp only [frm, List.foldl, List.replicate, List.set]; obtain ⟨_, hI⟩ := hI; have k1 := keep_cell hI p1; have e15 : u 15 = _ := hR 15 (by decide); rw [e15]; clear hI hst hR; go_wp2; exact ⟨rfl, _, rfl, rfl, rfl⟩
     · refine Owes.qG 55 (fun u => [(1, .slice (some ⟨b2, o2, none⟩) n2 c2)]) fun u w' hI hR => ?_; dsimp only [frm, List.foldl, List.replicate, List.set]; clear hI hst hR; go_wp2; exact ⟨rfl, _, rfl, rfl, rfl⟩
     · refine Owes.qG 55 (fun u => [(5, .int .i64 (k : Int))]) fun u w' hI hR => ?_; dsimp only [frm, List.foldl, List.replicate, List.set]; clear hI hst hR; go_wp2; exact ⟨rfl, _, rfl, rfl, rfl⟩
     · refine Owes.qG 55 (fun u => [(34, u 17), (35, u 18)]) fun u w' hI hR => ?_; dsimp only [frm, List.foldl, List.replicate, List.set]; have e17 : u 17 = _ := hR 17 (by decide); have e18 : u 18 = _ := hR 18 (by decide); rw [e17, e18]; clear hI hst hR; go_wp2; exact ⟨rfl, _, rfl, rfl, rfl⟩
     · refine Owes.qG 55 (fun u => [(36, u 19)]) fun u w' hI hR => ?_; dsimp only [frm, List.foldl, List.replicate, List.set]; have e19 : u 19 = _ := hR 19 (by decide); rw [e19]; clear hI hst hR; go_wp2; exact ⟨rfl, _, rfl, rfl, rfl⟩
     · refine Owes.qG 55 (fun u => [(37, u 20)]) fun u w' hI hR => ?_; dsimp only [frm, List.foldl, List.replicate, List.set]; obtain ⟨_, hI⟩ := hI; have k6 := keep_cell hI q1; have e20 : u 20 = _ := hR 20 (by decide); rw [e20]; clear hI hst hR; go_wp2; exact ⟨rfl, _, rfl, rfl, rfl⟩
     · refine Owes.qG 55 (fun u => [(33, u 16), (38, u 21)]) fun u w' hI hR => ?_; dsimp only [frm, List.foldl, List.replicate, List.set]; have e16 : u 16 = _ := hR 16 (by decide); have e21 : u 21 = _ := hR 21 (by decide); rw [e16, e21]; clear hI hst hR; go_wp2; exact ⟨rfl, _, rfl, rfl, rfl⟩
     · refine Owes.q 55 (fun u => [(28, u 11), (39, u 22)]) fun u w' hI hR => ?_; dsimp only [frm, List.foldl, List.replicate, List.set]; have e11 : u 11 = _ := hR 11 (by decide); have e22 : u 22 = _ := hR 22 (by decide); rw [e11, e22]; clear hI hst hR; go_wp2; exact ⟨rfl, _, rfl, rfl, rfl⟩
     · refine Owes.q 55 (fun u => [(40, u 23)]) fun u w' hI hR => ?_; dsimp only [frm, List.foldl, List.replicate, List.set]; have e23 : u 23 = _ := hR 23 (by decide); rw [e23]; clear hI hst hR; go_wp2; exact ⟨rfl, _, rfl, rfl, rfl⟩
     · refine Owes.qG 55 (fun u => [(0, .slice (some ⟨b1, o1, none⟩) n2 c1)]) fun u w' hI hR => ?_; dsimp only [frm, List.foldl, List.replicate, List.set]; clear hI hst hR; go_wp2; exact ⟨rfl, _, rfl, rfl, rfl⟩
     · refine Owes.qG 55 (fun u => [(5, .int .i64 (k : Int))]) fun u w' hI hR => ?_; dsimp only [frm, List.foldl, List.replicate, List.set]; clear hI hst hR; go_wp2; exact ⟨rfl, _, rfl, rfl, rfl⟩
     · refine Owes.qG 55 (fun u => [(42, u 25), (43, u 26)]) fun u w' hI hR => ?_; dsimp only [frm, List.foldl, List.replicate, List.set]; have e25 : u 25 = _ := hR 25 (by decide); have e26 : u 26 = _ := hR 26 (by decide); rw [e25, e26]; clear hI hst hR; go_wp2; exact ⟨rfl, _, rfl, rfl, rfl⟩
     · refine Owes.qG 55 (fun u => [(44, u 27)]) fun u w' hI hR => ?_; dsimp only [frm, List.foldl, List.replicate, List.set]; have e27 : u 27 = _ := hR 27 (by decide); rw [e27]; clear hI hst hR; go_wp2; exact ⟨rfl, _, rfl, rfl, rfl⟩
     · refine Owes.qG 55 (fun u => [(45, u 28)]) fun u w' hI hR => ?_; dsimp only [frm, List.foldl, List.replicate, List.set]; obtain ⟨_, hI⟩ := hI; have k2 := keep_cell hI p2; have k3 := keep_cell hI p3; have k4 := keep_cell hI p4; have e28 : u 28 = _ := hR 28 (by decide); rw [e28]; clear hI hst hR; go_wp2; exact ⟨rfl, _, rfl, rfl, rfl⟩
     · refine Owes.qG 55 (fun u => [(1, .slice (some ⟨b2, o2, none⟩) n2 c2)]) fun u w' hI hR => ?_; dsimp only [frm, List.foldl, List.replicate, List.set]; clear hI hst hR; go_wp2; exact ⟨rfl, _, rfl, rfl, rfl⟩
     · refine Owes.qG 55 (fun u => [(5, .int .i64 (k : Int))]) fun u w' hI hR => ?_; dsimp only [frm, List.foldl, List.replicate, List.set]; clear hI hst hR; go_wp2; exact ⟨rfl, _, rfl, rfl, rfl⟩
     · refine Owes.qG 55 (fun u => [(47, u 30), (48, u 31)]) fun u w' hI hR => ?_; dsimp only [frm, List.foldl, List.replicate, List.set]; have e30 : u 30 = _ := hR 30 (by decide); have e31 : u 31 = _ := hR 31 (by decide); rw [e30, e31]; clear hI hst hR; go_wp2; exact ⟨rfl, _, rfl, rfl, rfl⟩
     · refine Owes.qG 55 (fun u => [(49, u 32)]) fun u w' hI hR => ?_; dsimp only [frm, List.foldl, List.replicate, List.set]; have e32 : u 32 = _ := hR 32 (by decide); rw [e32]; clear hI hst hR; go_wp2; exact ⟨rfl, _, rfl, rfl, rfl⟩
     · refine Owes.qG 55 (fun u => [(50, u 33)]) fun u w' hI hR => ?_; dsimp only [frm, List.foldl, List.replicate, List.set]; obtain ⟨_, hI⟩ := hI; have k7 := keep_cell hI q2; have k8 := keep_cell hI q3; have k9 := keep_cell hI q4; have e33 : u 33 = _ := hR 33 (by decide); rw [e33]; clear hI hst hR; go_wp2; exact ⟨rfl, _, rfl, rfl, rfl⟩
     · refine Owes.mkG _ _ rfl rfl (fun _ _ h => by cases h) fun u m w' hm hI hR => ⟨⟨(frm 55 [(46, u 29), (51, u 34)]).toArray, []⟩, rfl, fun d hd => by cases hd; exact frm_lt (by decide), ?_⟩
       dsimp only [frm, List.foldl, List.replicate, List.set]
       have e29 : u 29 = _ := hR 29 (by decide)
       have e34 : u 34 = _ := hR 34 (by decide)
       have k0 := keep_cell hI p0
       have k1 := keep_cell hI p1
       have k2 := keep_cell hI p2
       have k3 := keep_cell hI p3
       have k4 := keep_cell hI p4
       have k5 := keep_cell hI q0
       have k6 := keep_cell hI q1
       have k7 := keep_cell hI q2
       have k8 := keep_cell hI q3
       have k9 := keep_cell hI q4
       rw [e29, e34]
       clear e29 e34
       have H1 := Lib.hid (SlR.below intR_fits G1.out hI)
       have H2 := Lib.hid (SlR.below intR_fits G2.out hI)
       go_wp2_with fail
       refine (crRsp_same y.rsp _ _ _ _ _ H1.out H2.out).mono ?_
       rintro e w5 ⟨rfl, b5⟩
       have HS := Lib.hid (facts_stable hst (b5.chg []))
       have HI := Lib.hid (hI.trans (b5.mono hI.size))
       clear hI b5 hst hR H1 H2
       go_wp2
       exact ⟨rfl, _, rfl, rfl, HI.out, HS.out⟩
     · refine Owes.qG 55 (fun u => [(52, u 35)]) fun u w' hI hR => ?_; dsimp only [frm, List.foldl, List.replicate, List.set]; have e35 : u 35 = _ := hR 35 (by decide); rw [e35]; clear hI hst hR; go_wp2; exact ⟨rfl, _, rfl, rfl, rfl⟩
     · refine Owes.q 55 (fun u => [(41, u 24), (53, u 36)]) fun u w' hI hR => ?_; dsimp only [frm, List.foldl, List.replicate, List.set]; have e24 : u 24 = _ := hR 24 (by decide); have e36 : u 36 = _ := hR 36 (by decide); rw [e24, e36]; clear hI hst hR; go_wp2; exact ⟨rfl, _, rfl, rfl, rfl⟩
    case hend =>
     intro u w' hI hR
     simp only [setAll, List.set_cons_zero, List.set_cons_succ]
     unfold wpList
     have e37 : u 37 = _ := hR 37 (by decide)
     rw [e37]
     have HBw := Lib.hid (HB.out.trans (hI.mono HB.out.size))
     clear hR hI hst e37 p0 p1 p2 p3 p4 q0 q1 q2 q3 q4
     go_wp2
     go_roundw
     case rel => exact ⟨k + 1, by omega, by go_num, HBw.out⟩
     case measure => simp [intOf]; omega
  · clear r1 r2
    go_wp2
    go_ret
    exact ⟨rfl, HB.out⟩
end Go.Proofs.Ytmcjklicepaiaaa
