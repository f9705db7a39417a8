/-
 Texts of this claim laid together: Do2.
-/
import Derived.Test.YtaeiddoccfaheaaGreatPk17
import Derived.Test.YtaeiddoccfaheaaGreatPk03
set_option linter.unusedVariables false
set_option linter.unusedSimpArgs false
namespace Go.Proofs.YtaeiddoccfaheaaGreat
def tbl4Free7 : List (List Nat) := [[], [0], [], [0, 1, 2], [0, 1, 2, 3], [], [], [5, 6], [5, 6, 7], [0, 1, 2, 3, 4, 5, 6, 7, 8]]
open Go.RowKit Go.ChangeShapes Go.WideShapes
set_option maxRecDepth 100000 in
set_option maxHeartbeats 3200000 in
theorem l4Free_any (hs ads : List Int) (aw : Option Addr) (nw cw : Nat) (vh va : Value) (fh fa : List Nat) (hhs : hs.length = 6) (hle : ads.length <= 4) (w : World)
 (gh : IntS w hs vh fh) (ga : IntS w ads va fa) (fr : Free fh w) (na : ∀ b, b ∈ fa -> b ∉ fh) :
 Calls Tryz.prog 88 #[.agg #[.slice aw nw cw, vh], va] w fun e w' => e = .returned (.agg #[.slice aw nw cw, vh]) ∧ IntS w' (freeH hs ads) vh fh ∧ Chg fh w w' ∧ Free fh w' := by
 obtain ⟨ah, nh, ch, rfl⟩ := gh.form
 obtain ⟨aa, n, ca, rfl, hn, hcap, hmax, hcm, -⟩ := ga.opened
 have hn4 : n <= 4 := by rw [<- hn.out]; exact hle
 obtain ⟨w1, hw1⟩ : ∃ z, z = (w.alloc (.cells #[.slice aw nw cw, .slice ah nh ch] 33)).alloc (.cells #[.slice none 0 0, .slice none 0 0] 33) := ⟨_, rfl⟩
 have b1 : Below w.heap.size w w1 := by rw [hw1]; exact (below_alloc _ _).trans ((below_alloc _ _).mono (by simp))
 have z1 : w1.heap.size = w.heap.size + 1 + 1 := by rw [hw1]; simp
 have c0 : w1.cell? ⟨w.heap.size, 0, none⟩ = some (.slice aw nw cw) := by rw [hw1]; exact alloc2_old _ _ _ _ _ 0 rfl
 have c1 : w1.cell? ⟨w.heap.size, 1, none⟩ = some (.slice ah nh ch) := by rw [hw1]; exact alloc2_old _ _ _ _ _ 1 rfl
 have r0 : w1.cell? ⟨w.heap.size + 1, 0, none⟩ = some (.slice none 0 0) := by rw [hw1]; exact alloc2_new _ _ _ _ _ 0 rfl
 have r1 : w1.cell? ⟨w.heap.size + 1, 1, none⟩ = some (.slice none 0 0) := by rw [hw1]; exact alloc2_new _ _ _ _ _ 1 rfl
 have rf : ∀ o, w1.frozen? ⟨w.heap.size + 1, o, none⟩ = false := fun o => by rw [hw1]; exact World.frozen?_alloc_at _ _ _ _ (by simp)
 have hlt0 : ∀ b, b ∈ fh -> b < w.heap.size := gh.lt intR_fits
 have n0 : w.heap.size ∉ fh := fun hm => by have := hlt0 _ hm; omega
 have n1 : w.heap.size + 1 ∉ fh := fun hm => by have := hlt0 _ hm; omega
 have GH := Lib.hid (SlR.below intR_fits gh b1)
 have GA := Lib.hid (SlR.below intR_fits ga b1)
 have FR := Lib.hid (Free.below fr hlt0 b1)
 have B1 := Lib.hid b1
 have Z1 := Lib.hid z1
 have HH := Lib.hid hhs
 have NA := Lib.hid na
 have RF := Lib.hid rf
 have hnh : nh = 6 := by
  obtain ⟨b, off, -, -, -, -, e⟩ := SlR.numAt gh (i := 0) (by omega)
  omega
 subst hnh
 clear z1 gh ga fr b1 hhs hle na hlt0 rf
 go_enter Tryz.func88, Tryz.ntmps88
 go_upto_region 1 with fail
 rw [<- hw1]
 clear hw1
 go_wp2_with fail
 go_loopw [5] (fun i wr => ∃ k : Nat, k <= 6 ∧ i = .int .i64 k ∧ IntS wr (freeTo hs ads k 0) (.slice ah 6 ch) fh ∧ Chg fh w1 wr ∧ Free fh wr) (fun i _ => 6 - (intOf i).toNat)
 case atStart => exact ⟨0, by omega, rfl, by rw [freeTo_zero]; exact GH.out, Chg.refl _ _, FR.out⟩
 case round =>
  obtain ⟨k, hk, rfl, gi, hc, hf⟩ := hrel
  have GI := Lib.hid gi
  have HC := Lib.hid hc
  have HF := Lib.hid hf
  clear gi hc hf
  have d0 := keep_cell_chg HC.out c0 n0
  have d1 := keep_cell_chg HC.out c1 n0
  by_cases hlt : k < 6
  · have hlti : (k : Int) < 6 := by omega
    go_wp2_with fail
    go_loopw [6] (fun i wr2 => ∃ j : Nat, j <= n ∧ i = .int .i64 j ∧ IntS wr2 (freeTo hs ads k j) (.slice ah 6 ch) fh ∧ Chg fh w1 wr2 ∧ Free fh wr2) (fun i _ => n - (intOf i).toNat)
    case atStart => exact ⟨0, by omega, rfl, GI.out, HC.out, HF.out⟩
    case round =>
     clear d0 d1 GI HC HF
     obtain ⟨j, hj, rfl, gi, hc, hf⟩ := hrel
     have GI := Lib.hid gi
     have HC := Lib.hid hc
     have HF := Lib.hid hf
     clear gi hc hf
     by_cases hltj : j < n
     · have hltji : (j : Int) < (n : Int) := by omega
       have hja : j < ads.length := by rw [hn.out]; exact hltj
       have hkh : k < hs.length := by rw [HH.out]; exact hlt
       have hkf : k < (freeTo hs ads k j).length := by rw [freeTo_len]; exact hkh
       obtain ⟨ba, oa, rfl, hba, ma, ea, -⟩ := GA.out.numAt hja
       obtain ⟨bh, oh, rfl, hbh, mh, cH, -⟩ := GI.out.numAt hkf
       have fH := HF.out bh mh (oh + k)
       have d1 := keep_cell_chg HC.out c1 n0
       have cA := keep_cell_chg HC.out ea (NA.out _ ma)
       obtain ⟨z, hz⟩ : ∃ z, z = (freeTo hs ads k j)[k] := ⟨_, rfl⟩
       obtain ⟨y, hy⟩ : ∃ z, z = ads[j] := ⟨_, rfl⟩
       have hit : z = y -> freeTo hs ads k (j + 1) = (freeTo hs ads k j).set k (-1) := fun e => freeTo_hit hkh hja (by rw [<- hz, e, hy])
       have miss : z ≠ y -> freeTo hs ads k (j + 1) = freeTo hs ads k j := fun e => freeTo_miss hkh hja (by rw [<- hz, <- hy]; exact e)
       rw [<- hz] at cH
       rw [<- hy] at cA
       have HIT := Lib.hid hit
       have MISS := Lib.hid miss
       clear ea hz hy hit miss ma
       go_wp2_with fail
       have hst : ∀ F, F ∈ [FEq (.pointer (some ⟨w.heap.size, 1, none⟩)), FEq (.slice (some ⟨bh, oh, none⟩) 6 ch), FEq (.int .i64 (k : Int)), FEq (.pointer (some ⟨bh, oh + k, none⟩)), FEq (.int .i64 z), FEq (.slice (some ⟨ba, oa, none⟩) n ca), FEq (.int .i64 (j : Int)), FEq (.pointer (some ⟨ba, oa + j, none⟩)), FEq (.int .i64 y), FEq (.bool (z == y))] -> Stable [] F := by
        simp only [List.forall_mem_cons]
        exact ⟨stEq _ _, stEq _ _, stEq _ _, stEq _ _, stEq _ _, stEq _ _, stEq _ _, stEq _ _, stEq _ _, stEq _ _, fun _ h => by simp at h⟩
       refine wp_region_tail (by kernel_rfl) (fun i => (tbl4Free7 : List (List Nat)).getD i []) (facts [FEq (.pointer (some ⟨w.heap.size, 1, none⟩)), FEq (.slice (some ⟨bh, oh, none⟩) 6 ch), FEq (.int .i64 (k : Int)), FEq (.pointer (some ⟨bh, oh + k, none⟩)), FEq (.int .i64 z), FEq (.slice (some ⟨ba, oa, none⟩) n ca), FEq (.int .i64 (j : Int)), FEq (.pointer (some ⟨ba, oa + j, none⟩)), FEq (.int .i64 y), FEq (.bool (z == y))]) (fun m w' => Below wr.heap.size wr w') 35 10 10 [some 20, some 21, some 22, some 23, some 24, some 25, some 26, some 27, some 28, some 29] [] rfl rfl (by decide) rfl rfl (by kernel_rfl) (by kernel_rfl) [] (by kernel_rfl) (fun g b hm v w h => by simp at hm) ?h0 (all_lt (n := 10) ?hop) ?hend
       case h0 => exact (Below.refl _ _).drew
       case hop =>
        refine ⟨⟨⟨⟨⟨⟨⟨⟨⟨⟨trivial, ?_⟩, ?_⟩, ?_⟩, ?_⟩, ?_⟩, ?_⟩, ?_⟩, ?_⟩, ?_⟩, ?_⟩
        · refine Owes.q 35 (fun u => [(2, .pointer (some ⟨w.heap.size, 0, none⟩))]) fun u w' hI hR => ?_; dsimp only [frm, List.foldl, List.replicate, List.set]; clear hI hst hR; go_wp2; exact ⟨rfl, _, rfl, rfl, rfl⟩
        · refine Owes.q 35 (fun u => [(20, u 0)]) fun u w' hI hR => ?_; dsimp only [frm, List.foldl, List.replicate, List.set]; obtain ⟨_, hI⟩ := hI; have k0 := keep_cell hI d1; have e0 : u 0 = _ := hR 0 (by decide); rw [e0]; clear hI hst hR; go_wp2; exact ⟨rfl, _, rfl, rfl, rfl⟩
        · refine Owes.q 35 (fun u => [(5, .int .i64 (k : Int))]) fun u w' hI hR => ?_; dsimp only [frm, List.foldl, List.replicate, List.set]; clear hI hst hR; go_wp2; exact ⟨rfl, _, rfl, rfl, rfl⟩
        · refine Owes.q 35 (fun u => [(21, u 1), (22, u 2)]) fun u w' hI hR => ?_; dsimp only [frm, List.foldl, List.replicate, List.set]; have e1 : u 1 = _ := hR 1 (by decide); have e2 : u 2 = _ := hR 2 (by decide); rw [e1, e2]; clear hI hst hR; go_wp2; exact ⟨rfl, _, rfl, rfl, rfl⟩
        · refine Owes.q 35 (fun u => [(23, u 3)]) fun u w' hI hR => ?_; dsimp only [frm, List.foldl, List.replicate, List.set]; obtain ⟨_, hI⟩ := hI; have k1 := keep_cell hI cH; have e3 : u 3 = _ := hR 3 (by decide); rw [e3]; clear hI hst hR; go_wp2; exact ⟨rfl, _, rfl, rfl, rfl⟩
        · refine Owes.q 35 (fun u => [(1, .slice (some ⟨ba, oa, none⟩) n ca)]) fun u w' hI hR => ?_; dsimp only [frm, List.foldl, List.replicate, List.set]; clear hI hst hR; go_wp2; exact ⟨rfl, _, rfl, rfl, rfl⟩
        · refine Owes.q 35 (fun u => [(6, .int .i64 (j : Int))]) fun u w' hI hR => ?_; dsimp only [frm, List.foldl, List.replicate, List.set]; clear hI hst hR; go_wp2; exact ⟨rfl, _, rfl, rfl, rfl⟩
        · refine Owes.q 35 (fun u => [(25, u 5), (26, u 6)]) fun u w' hI hR => ?_; dsimp only [frm, List.foldl, List.replicate, List.set]; have e5 : u 5 = _ := hR 5 (by decide); have e6 : u 6 = _ := hR 6 (by decide); rw [e5, e6]; clear hI hst hR; go_wp2; exact ⟨rfl, _, rfl, rfl, rfl⟩
        · refine Owes.q 35 (fun u => [(27, u 7)]) fun u w' hI hR => ?_; dsimp only [frm, List.foldl, List.replicate, List.set]; obtain ⟨_, hI⟩ := hI; have k2 := keep_cell hI cA; have e7 : u 7 = _ := hR 7 (by decide); rw [e7]; clear hI hst hR; go_wp2; exact ⟨rfl, _, rfl, rfl, rfl⟩
        · refine Owes.q 35 (fun u => [(24, u 4), (28, u 8)]) fun u w' hI hR => ?_; dsimp only [frm, List.foldl, List.replicate, List.set]; have e4 : u 4 = _ := hR 4 (by decide); have e8 : u 8 = _ := hR 8 (by decide); rw [e4, e8]; clear hI hst hR; go_wp2; exact ⟨rfl, _, rfl, rfl, rfl⟩
       case hend =>
        intro u w' hI hR
        simp only [setAll, List.set_cons_zero, List.set_cons_succ]
        unfold wpList
        have e9 : u 9 = _ := hR 9 (by decide)
        rw [e9]
        have fH := keep_free hI (block_of_cell cH) fH
        have cH := keep_cell hI cH
        have d1 := keep_cell hI d1
        have GIw := Lib.hid (SlR.below intR_fits GI.out hI)
        have HCw := Lib.hid (HC.out.trans' (hI.chg fh))
        have HFw := Lib.hid (HF.out.below (fun b hb => GI.out.lt intR_fits b hb) hI)
        clear hR hI hst e9 GI HC HF cA
        cases hzy : (z == y)
        · have HM := Lib.hid (MISS.out (by simpa using hzy))
          go_wp2
          go_roundw
          case rel => exact ⟨j + 1, by omega, by go_num, by rw [HM.out]; exact GIw.out, HCw.out, HFw.out⟩
          case measure => simp [intOf]; omega
        · have HM := Lib.hid (HIT.out (by simpa using hzy))
          go_wp2
          go_roundw
          case rel =>
           obtain ⟨t1, t2, t3⟩ := IntS.set GIw.out rfl hlt (-1)
           exact ⟨j + 1, by omega, by go_num, by rw [HM.out]; exact t1, HCw.out.trans' t2, HFw.out.setCell _ _⟩
          case measure => simp [intOf]; omega
     · have hjn : j = ads.length := by rw [hn.out]; omega
       have hnx : freeTo hs ads k j = freeTo hs ads (k + 1) 0 := by rw [hjn]; exact freeTo_next _ _ _
       have HX := Lib.hid hnx
       clear hnx hjn
       go_wp2
       go_roundw
       case rel => exact ⟨k + 1, by omega, by go_num, by rw [<- HX.out]; exact GI.out, HC.out, HF.out⟩
       case measure => simp [intOf]; omega
  · have hk6 : hs.length <= k := by rw [HH.out]; omega
    have hfin : freeTo hs ads k 0 = freeH hs ads := freeTo_all hk6
    have r0 := keep_cell_chg HC.out r0 n1
    have r1 := keep_cell_chg HC.out r1 n1
    have f0 := (World.frozen?_of_block (HC.out.block (w.heap.size + 1) (by have := Z1.out; omega) n1)).trans (RF.out 0)
    have f1 := (World.frozen?_of_block (HC.out.block (w.heap.size + 1) (by have := Z1.out; omega) n1)).trans (RF.out 1)
    have HCH := Lib.hid ((B1.out.chg fh).trans' HC.out)
    have HP := Lib.hid GI.out
    have HFI := Lib.hid hfin
    clear HC GI hfin hk6
    go_wp2
    refine bodyPost_ret (v := .agg #[.slice aw nw cw, .slice ah 6 ch]) (by simp [results, Tryz.results88, go_sem, put2a_0 _ _ r0, put2a_1 _ _ r1]) rfl ?_
    have hc2 : Chg [w.heap.size + 1] wr ((wr.setCell ⟨w.heap.size + 1, 0, none⟩ (.slice aw nw cw)).setCell ⟨w.heap.size + 1, 1, none⟩ (.slice ah 6 ch)) := (store_chg _).trans' (store_chg _)
    refine ⟨rfl, ?_, (HCH.out.trans hc2).drop (fun b hb hl => ?_), (HF.out.setCell _ _).setCell _ _⟩
    · have := HP.out
      rw [HFI.out] at this
      exact this.chg intR_fits hc2 (fun b hb => by simp; exact fun e => n1 (e ▸ hb))
    · rcases List.mem_append.1 hb with hb | hb
      · exact hb
      · simp at hb; omega
end Go.Proofs.YtaeiddoccfaheaaGreat
