/-
 Texts of this claim laid together: Do1.
-/
import Derived.Test.YtaeiddoccfaheaaGreatProg
import Derived.Test.YtaeiddoccfaheaaGreatPk03
import Derived.Test.YtaeiddoccfaheaaGreatPk13
import Derived.Test.YtaeiddoccfaheaaGreatPk15
import Derived.Test.YtaeiddoccfaheaaGreatPk16
import Derived.Test.YtaeiddoccfaheaaGreatPk02
import Derived.WalkSmall
import Derived.Deep.DeepCutAuto
import Derived.Deep.CutBlock
set_option linter.unusedVariables false
set_option linter.unusedSimpArgs false
namespace Go.Proofs.YtaeiddoccfaheaaGreat
def tbl2Get5 : List (List Nat) := [[], [], [1], [], [], [3, 4], [3, 4, 5], [1, 2, 3, 4, 5, 6], [1, 2, 3, 4, 5, 6, 7], [1, 2, 3, 4, 5, 6, 7, 8], [0, 1, 2, 3, 4, 5, 6, 7, 8, 9], [0, 1, 2, 3, 4, 5, 6, 7, 8, 9, 10]]
def tbl2Put4 : List (List Nat) := [[], [0], [], [], [2, 3], [2, 3, 4], [], [6], [], [], [8, 9], [8, 9, 10], [6, 7, 8, 9, 10, 11], [6, 7, 8, 9, 10, 11, 12], [], [], [14, 15], [14, 15, 16], [], [], [18, 19], [18, 19, 20], [6, 7, 8, 9, 10, 11, 12, 13, 14, 15, 16, 17, 18, 19, 20, 21], [0, 1, 2, 3, 4, 5, 6, 7, 8, 9, 10, 11, 12, 13, 14, 15, 16, 17, 18, 19, 20, 21, 22], [0, 1, 2, 3, 4, 5, 6, 7, 8, 9, 10, 11, 12, 13, 14, 15, 16, 17, 18, 19, 20, 21, 22, 23]]
open Go.RowKit Go.ChangeShapes Go.WideShapes
def NumC (x : Int) : List Value := [.int .i64 x]
theorem NumC_len (x : Int) : (NumC x).length = 1 := rfl
abbrev NumRow := OwnR 1 NumC 3
theorem setSame1 {w : World} {b j : Nat} {u v : Value} (h : w.cell? ⟨b, j, none⟩ = some u) : (w.setCell ⟨b, j, none⟩ v).cell? ⟨b, j, none⟩ = some v := World.cell?_setCell_same _ _ _ h
theorem put2a_0 {w : World} {b : Nat} {u : Value} (s t : Value) (h : w.cell? ⟨b, 0, none⟩ = some u) : ((w.setCell ⟨b, 0, none⟩ s).setCell ⟨b, 1, none⟩ t).cell? ⟨b, 0, none⟩ = some s :=
 (World.cell?_setCell_other _ _ _ _ (by simp)).trans (World.cell?_setCell_same _ _ _ h)
theorem put2a_1 {w : World} {b : Nat} {u : Value} (s t : Value) (h : w.cell? ⟨b, 1, none⟩ = some u) : ((w.setCell ⟨b, 0, none⟩ s).setCell ⟨b, 1, none⟩ t).cell? ⟨b, 1, none⟩ = some t :=
 World.cell?_setCell_same _ _ _ ((World.cell?_setCell_other _ _ _ _ (by simp)).trans h)
theorem numRow_reads {w : World} {base : Nat} {v : Value} {l : List Int} (h : NumRow base w v l) : ∃ fp, SlR 1 intR w l v fp ∧ (∀ b, b ∈ fp -> base <= b) ∧ fp.Nodup ∧ Free fp w := OwnR.reads NumC_len h
def FLay (u : Value) : Fact := fun v w => ∃ b : Nat, v = .slice (some ⟨b, 0, none⟩) 1 1 ∧ w.cell? ⟨b, 0, none⟩ = some u
theorem stLay (u : Value) : Stable [] (FLay u) := fun _ _ _ ⟨b, e, h⟩ hc => ⟨b, e, keep_cell_chg hc h (by simp)⟩
theorem SlR.numAt {w : World} {l : List Int} {a : Option Addr} {n cap : Nat} {fp : List Nat} (h : SlR 1 intR w l (.slice a n cap) fp) {i : Nat} (hi : i < l.length) : ∃ (b off : Nat), a = some ⟨b, off, none⟩ ∧ b < w.heap.size ∧ b ∈ fp ∧ w.cell? ⟨b, off + i, none⟩ = some (.int .i64 l[i]) ∧ l.length = n := by
 obtain ⟨a', n', cap', e, hn, _, _, _, r⟩ := IntS.opened h
 simp only [Value.slice.injEq] at e
 obtain ⟨rfl, rfl, rfl⟩ := e
 obtain ⟨_, b, off, h1, h2, h3, h4⟩ := r i (by rw [<- hn.out]; exact hi)
 exact ⟨b, off, h1, h2, h3, h4, hn.out⟩
set_option maxRecDepth 100000 in
set_option maxHeartbeats 3200000 in
theorem l2Get_any (ws ads : List Int) (vw va : Value) (fw fa : List Nat) (hws : ws.length = 64) (hle : ads.length <= 4) (ha : ∀ i (h : i < ads.length), 0 <= ads[i] ∧ ads[i] <= 63) (w : World) (gw : IntS w ws vw fw) (ga : IntS w ads va fa) :
 Calls Tryz.prog 86 #[.agg #[vw], va] w fun e w' => ∃ v fp, e = .returned v ∧ IntS w' (l2get ws ads) v fp ∧ New fp w w' ∧ Below w.heap.size w w' := by
 obtain ⟨i0, ki, kz0, kz1, kz2⟩ := info_parts infoInt
 obtain ⟨aw, nw, cw, rfl⟩ := gw.form
 obtain ⟨aa, n, ca, rfl, hn, hcap, hmax, hcm, -⟩ := ga.opened
 have hn4 : n <= 4 := by rw [<- hn.out]; exact hle
 obtain ⟨w1, hw1⟩ : ∃ z, z = w.alloc (.cells #[.slice aw nw cw] 31) := ⟨_, rfl⟩
 have b1 : Below w.heap.size w w1 := by rw [hw1]; exact below_alloc _ _
 have z1 : w1.heap.size = w.heap.size + 1 := by rw [hw1]; simp
 have c0 : w1.cell? ⟨w.heap.size, 0, none⟩ = some (.slice aw nw cw) := by rw [hw1]; exact alloc1_new _ _ _ 0 rfl
 have GW := Lib.hid (SlR.below intR_fits gw b1)
 have GA := Lib.hid (SlR.below intR_fits ga b1)
 have B1 := Lib.hid b1
 have Z1 := Lib.hid z1
 have HW := Lib.hid hws
 have HA := Lib.hid ha
 clear gw ga b1 hws ha hle z1
 go_enter Tryz.func86, Tryz.ntmps86
 go_upto_region 1 with fail
 rw [<- hw1]
 clear hw1
 go_wp2_with fail
 go_loopw [5, 6] (fun v i wr => ∃ k : Nat, k <= n ∧ i = .int .i64 k ∧ NumRow w1.heap.size wr v (l2get ws (ads.take k)) ∧ Below w1.heap.size w1 wr) (fun _ i _ => n - (intOf i).toNat)
 case atStart => exact ⟨0, Nat.zero_le _, rfl, OwnR.lit w1 #[] 0 [] NumC_len (by simp) rfl (Nat.le_refl _) (by simp), below_alloc _ _⟩
 case round =>
  obtain ⟨k, hk, rfl, hown, hbel⟩ := hrel
  have HO := Lib.hid hown
  have HB := Lib.hid hbel
  clear hown hbel
  by_cases hlt : k < n
  · have hlti : (k : Int) < (n : Int) := by omega
    have hka : k < ads.length := by rw [hn.out]; exact hlt
    obtain ⟨ba, oa, rfl, hba, -, ea, -⟩ := GA.out.numAt hka
    obtain ⟨q, hq⟩ := Int.eq_ofNat_of_zero_le (HA.out k hka).1
    have hq63 : q < ws.length := by rw [HW.out]; have := (HA.out k hka).2; omega
    obtain ⟨bw, ow, rfl, hbw, -, ew, hnw⟩ := GW.out.numAt hq63
    obtain rfl : nw = 64 := by rw [<- hnw, HW.out]
    have hqi : (q : Int) < 64 := by rw [HW.out] at hq63; omega
    rw [hq] at ea
    have c0 := keep_cell HB.out c0
    have cA := keep_cell HB.out ea
    have cW := keep_cell HB.out ew
    have HQ := Lib.hid hq
    clear ea ew hnw hq
    go_wp2_with fail
    have hst : ∀ F, F ∈ [FEq (u5), FEq (.pointer (some ⟨w.heap.size, 0, none⟩)), FEq (.slice (some ⟨bw, ow, none⟩) 64 cw), FEq (.slice (some ⟨ba, oa, none⟩) n ca), FEq (.int .i64 (k : Int)), FEq (.pointer (some ⟨ba, oa + k, none⟩)), FEq (.int .i64 (q : Int)), FEq (.pointer (some ⟨bw, ow + q, none⟩)), FEq (.int .i64 ws[q]), FLay (.int .i64 ws[q])] -> Stable [] F := by
     simp only [List.forall_mem_cons]
     exact ⟨stEq _ _, stEq _ _, stEq _ _, stEq _ _, stEq _ _, stEq _ _, stEq _ _, stEq _ _, stEq _ _, stLay _, fun _ h => by simp at h⟩
    refine wp_region_tail (by kernel_rfl) (fun i => (tbl2Get5 : List (List Nat)).getD i []) (facts [FEq (u5), FEq (.pointer (some ⟨w.heap.size, 0, none⟩)), FEq (.slice (some ⟨bw, ow, none⟩) 64 cw), FEq (.slice (some ⟨ba, oa, none⟩) n ca), FEq (.int .i64 (k : Int)), FEq (.pointer (some ⟨ba, oa + k, none⟩)), FEq (.int .i64 (q : Int)), FEq (.pointer (some ⟨bw, ow + q, none⟩)), FEq (.int .i64 ws[q]), FLay (.int .i64 ws[q])]) (fun m w' => Below wr.heap.size wr w') 26 12 10 [some 14, some 15, some 16, some 17, some 18, some 19, some 20, some 21, some 22, some 23] _ rfl rfl (by decide) rfl rfl (by kernel_rfl) (by kernel_rfl) [] (by kernel_rfl) (fun g b hm v w h => by simp at hm) ?h0 (all_lt (n := 10) ?hop) ?hend
    case h0 => exact (Below.refl _ _).drew
    case hop =>
     refine ⟨⟨⟨⟨⟨⟨⟨⟨⟨⟨trivial, ?_⟩, ?_⟩, ?_⟩, ?_⟩, ?_⟩, ?_⟩, ?_⟩, ?_⟩, ?_⟩, ?_⟩
     · refine Owes.q 26 (fun u => [(5, u5)]) fun u w' hI hR => ?_; dsimp only [frm, List.foldl, List.replicate, List.set]; clear hI hst hR; go_wp2; exact ⟨rfl, _, rfl, rfl, rfl⟩
     · refine Owes.q 26 (fun u => [(2, .pointer (some ⟨w.heap.size, 0, none⟩))]) fun u w' hI hR => ?_; dsimp only [frm, List.foldl, List.replicate, List.set]; clear hI hst hR; go_wp2; exact ⟨rfl, _, rfl, rfl, rfl⟩
     · refine Owes.q 26 (fun u => [(15, u 1)]) fun u w' hI hR => ?_; dsimp only [frm, List.foldl, List.replicate, List.set]; obtain ⟨_, hI⟩ := hI; have k0 := keep_cell hI c0; have e1 : u 1 = _ := hR 1 (by decide); rw [e1]; clear hI hst hR; go_wp2; exact ⟨rfl, _, rfl, rfl, rfl⟩
     · refine Owes.q 26 (fun u => [(1, .slice (some ⟨ba, oa, none⟩) n ca)]) fun u w' hI hR => ?_; dsimp only [frm, List.foldl, List.replicate, List.set]; clear hI hst hR; go_wp2; exact ⟨rfl, _, rfl, rfl, rfl⟩
     · refine Owes.q 26 (fun u => [(6, .int .i64 (k : Int))]) fun u w' hI hR => ?_; dsimp only [frm, List.foldl, List.replicate, List.set]; clear hI hst hR; go_wp2; exact ⟨rfl, _, rfl, rfl, rfl⟩
     · refine Owes.q 26 (fun u => [(17, u 3), (18, u 4)]) fun u w' hI hR => ?_; dsimp only [frm, List.foldl, List.replicate, List.set]; have e3 : u 3 = _ := hR 3 (by decide); have e4 : u 4 = _ := hR 4 (by decide); rw [e3, e4]; clear hI hst hR; go_wp2; exact ⟨rfl, _, rfl, rfl, rfl⟩
     · refine Owes.q 26 (fun u => [(19, u 5)]) fun u w' hI hR => ?_; dsimp only [frm, List.foldl, List.replicate, List.set]; obtain ⟨_, hI⟩ := hI; have k1 := keep_cell hI cA; have e5 : u 5 = _ := hR 5 (by decide); rw [e5]; clear hI hst hR; go_wp2; exact ⟨rfl, _, rfl, rfl, rfl⟩
     · refine Owes.q 26 (fun u => [(16, u 2), (20, u 6)]) fun u w' hI hR => ?_; dsimp only [frm, List.foldl, List.replicate, List.set]; have e2 : u 2 = _ := hR 2 (by decide); have e6 : u 6 = _ := hR 6 (by decide); rw [e2, e6]; clear hI hst hR; go_wp2; exact ⟨rfl, _, rfl, rfl, rfl⟩
     · refine Owes.q 26 (fun u => [(21, u 7)]) fun u w' hI hR => ?_; dsimp only [frm, List.foldl, List.replicate, List.set]; obtain ⟨_, hI⟩ := hI; have k2 := keep_cell hI cW; have e7 : u 7 = _ := hR 7 (by decide); rw [e7]; clear hI hst hR; go_wp2; exact ⟨rfl, _, rfl, rfl, rfl⟩
     · refine Owes.mk _ rfl rfl (fun _ _ h => by cases h) fun u m w' hm hI hR => ⟨⟨(frm 26 [(22, u 8)]).toArray, []⟩, rfl, fun d hd => by cases hd; exact frm_lt (by decide), ?_⟩
       dsimp only [frm, List.foldl, List.replicate, List.set]
       have e8 : u 8 = _ := hR 8 (by decide)
       have k0 := keep_cell hI c0
       have k1 := keep_cell hI cA
       have k2 := keep_cell hI cW
       rw [e8]
       clear e8
       have ba_ := below_alloc w' (.cells #[.int .i64 ws[q]] 3)
       have HS8 := Lib.hid (facts_stable hst (ba_.chg []))
       have HB8 := Lib.hid (hI.trans (ba_.mono hI.size))
       clear hI hst hR ba_
       go_wp2
       exact ⟨rfl, _, rfl, ⟨w'.heap.size, rfl, alloc_new _ _ _⟩, HB8.out, HS8.out⟩
    case hend =>
     intro u w' hI hR
     simp only [setAll, List.set_cons_zero, List.set_cons_succ]
     have e0 : u 0 = _ := hR 0 (by decide)
     obtain ⟨b9, e9, c9⟩ := hR 9 (by decide)
     rw [e0, e9]
     have HOw := Lib.hid (HO.out.below hI)
     have HBw := Lib.hid (HB.out.trans (hI.mono HB.out.size))
     have C9 := Lib.hid c9
     have hlen : (l2get ws (ads.take k)).length <= 2000000 := by simp [l2get]; omega
     clear hR hI hst e0 e9 c9 HO HB c0 cA cW
     refine wpList_appendR (K := 1) (c := NumC) (l := l2get ws (ads.take k)) (news := [ws[q]]) (base := w1.heap.size) rfl _ _ 23 3 i0 (.int .i64 0) 8 NumC_len rfl Tryz.underlying23 ki kz0 kz1 kz2 rfl (by decide) (by decide) rfl rfl HOw.out rfl (fun j u hj => by
      have hj0 : j = 0 := by have := (List.getElem?_eq_some_iff.1 hj).1; simpa [NumC] using this
      subst hj0
      simp [NumC] at hj
      subst hj
      exact C9.out) (by simp [NumC, Value.oneCell']) hlen (by omega) HBw.out.size ?_
     intro v' w2 hown hg
     have HB2 := Lib.hid (HBw.out.trans (grown_below HOw.out hg HBw.out.size))
     have HO2 := Lib.hid hown
     clear hown hg
     go_wp2
     go_roundw
     case rel => exact ⟨k + 1, by omega, by go_num, by rw [l2get_succ _ hka, HQ.out, getW_at hq63]; exact HO2.out, HB2.out⟩
     case measure => simp [intOf]; omega
  · have hkn : k = n := by omega
    have hall : ads.take k = ads := List.take_of_length_le (by rw [hn.out]; omega)
    have ho := HO.out
    rw [hall] at ho
    obtain ⟨fp', g1, g2, g3, g4⟩ := numRow_reads ho
    have HG1 := Lib.hid g1
    have HG2 : Hid (∀ b, b ∈ fp' -> w.heap.size <= b) := Lib.hid (fun b hb => by have := g2 b hb; have := Z1.out; omega)
    have HG3 := Lib.hid g3
    have HG4 := Lib.hid g4
    have HBw := Lib.hid (B1.out.trans (HB.out.mono B1.out.size))
    clear ho hall g1 g2 g3 g4 HB c0
    go_wp2
    go_ret
    exact ⟨_, fp', rfl, HG1.out, ⟨HG2.out, HG3.out, HG4.out⟩, HBw.out⟩
set_option maxRecDepth 100000 in
set_option maxHeartbeats 3200000 in
theorem l2Put_any (ws ads data lanes : List Int) (vw va vd vl : Value) (fw fa fd fl : List Nat) (hws : ws.length = 64) (hle : ads.length <= 4) (hd : data.length = ads.length) (hl : lanes.length = ads.length) (ha : ∀ i (h : i < ads.length), 0 <= ads[i] ∧ ads[i] <= 63) (w : World)
 (gw : IntS w ws vw fw) (ga : IntS w ads va fa) (gd : IntS w data vd fd) (gl : IntS w lanes vl fl) (fr : Free fw w) (na : ∀ b, b ∈ fa -> b ∉ fw) (nd : ∀ b, b ∈ fd -> b ∉ fw) (nl : ∀ b, b ∈ fl -> b ∉ fw) :
 Calls Tryz.prog 87 #[.agg #[vw], va, vd, vl] w fun e w' => e = .returned (.agg #[vw]) ∧ IntS w' (l2put ws ads data lanes) vw fw ∧ Chg fw w w' ∧ Free fw w' := by
 obtain ⟨aw, nw, cw, rfl⟩ := gw.form
 obtain ⟨aa, n, ca, rfl, hn, hcap, hmax, hcm, -⟩ := ga.opened
 obtain ⟨ad, nd', cd, rfl⟩ := gd.form
 obtain ⟨al, nl', cl, rfl⟩ := gl.form
 have hn4 : n <= 4 := by rw [<- hn.out]; exact hle
 obtain ⟨w1, hw1⟩ : ∃ z, z = (w.alloc (.cells #[.slice aw nw cw] 31)).alloc (.cells #[.slice none 0 0] 31) := ⟨_, rfl⟩
 have b1 : Below w.heap.size w w1 := by rw [hw1]; exact (below_alloc _ _).trans ((below_alloc _ _).mono (by simp))
 have z1 : w1.heap.size = w.heap.size + 1 + 1 := by rw [hw1]; simp
 have c0 : w1.cell? ⟨w.heap.size, 0, none⟩ = some (.slice aw nw cw) := by rw [hw1]; exact alloc2_old _ _ _ _ _ 0 rfl
 have r0 : w1.cell? ⟨w.heap.size + 1, 0, none⟩ = some (.slice none 0 0) := by rw [hw1]; exact alloc2_new _ _ _ _ _ 0 rfl
 have rf : w1.frozen? ⟨w.heap.size + 1, 0, none⟩ = false := by rw [hw1]; exact World.frozen?_alloc_at _ _ _ _ (by simp)
 have hlt0 : ∀ b, b ∈ fw -> b < w.heap.size := gw.lt intR_fits
 have n0 : w.heap.size ∉ fw := fun hm => by have := hlt0 _ hm; omega
 have n1 : w.heap.size + 1 ∉ fw := fun hm => by have := hlt0 _ hm; omega
 have GW := Lib.hid (SlR.below intR_fits gw b1)
 have GA := Lib.hid (SlR.below intR_fits ga b1)
 have GD := Lib.hid (SlR.below intR_fits gd b1)
 have GL := Lib.hid (SlR.below intR_fits gl b1)
 have FR := Lib.hid (Free.below fr hlt0 b1)
 have B1 := Lib.hid b1
 have Z1 := Lib.hid z1
 have HW := Lib.hid hws
 have HA := Lib.hid ha
 have HD := Lib.hid hd
 have HL := Lib.hid hl
 have NA := Lib.hid na
 have ND := Lib.hid nd
 have NL := Lib.hid nl
 clear z1 gw ga gd gl fr b1 hws ha hle hd hl na nd nl hlt0
 go_enter Tryz.func87, Tryz.ntmps87
 go_upto_region 1 with fail
 rw [<- hw1]
 clear hw1
 go_wp2_with fail
 go_loopw [9] (fun i wr => ∃ k : Nat, k <= n ∧ i = .int .i64 k ∧ IntS wr (putTo ws ads data lanes k) (.slice aw nw cw) fw ∧ Chg fw w1 wr ∧ Free fw wr) (fun i _ => n - (intOf i).toNat)
 case atStart => exact ⟨0, Nat.zero_le _, rfl, GW.out, Chg.refl _ _, FR.out⟩
 case round =>
  obtain ⟨k, hk, rfl, gi, hc, hf⟩ := hrel
  have GI := Lib.hid gi
  have HC := Lib.hid hc
  have HF := Lib.hid hf
  clear gi hc hf
  by_cases hlt : k < n
  · have hlti : (k : Int) < (n : Int) := by omega
    have hka : k < ads.length := by rw [hn.out]; exact hlt
    have hkd : k < data.length := by rw [HD.out]; exact hka
    have hkl : k < lanes.length := by rw [HL.out]; exact hka
    obtain ⟨ba, oa, rfl, hba, ma, ea, -⟩ := GA.out.numAt hka
    obtain ⟨bd, od, rfl, hbd, md, ed, hnd⟩ := GD.out.numAt hkd
    obtain ⟨bl, ol, rfl, hbl, ml, el, hnl⟩ := GL.out.numAt hkl
    obtain rfl : nd' = n := by rw [<- hnd, HD.out, hn.out]
    obtain rfl : nl' = nd' := by rw [<- hnl, HL.out, hn.out]
    obtain ⟨q, hq⟩ := Int.eq_ofNat_of_zero_le (HA.out k hka).1
    have hqw : q < ws.length := by rw [HW.out]; have := (HA.out k hka).2; omega
    have hqp : q < (putTo ws ads data lanes k).length := by rw [putTo_len]; exact hqw
    obtain ⟨bw, ow, rfl, hbw, mw, cW, hnw⟩ := GI.out.numAt hqp
    obtain rfl : nw = 64 := by rw [<- hnw, putTo_len, HW.out]
    have hq64 : q < 64 := by rw [HW.out] at hqw; exact hqw
    have hqi : (q : Int) < 64 := by omega
    have hsucc := putTo_succ hka hkd hkl hq hqw
    rw [hq] at ea
    have fW := HF.out bw mw (ow + q)
    have c0 := keep_cell_chg HC.out c0 n0
    have cA := keep_cell_chg HC.out ea (NA.out _ ma)
    have cD := keep_cell_chg HC.out ed (ND.out _ md)
    have cL := keep_cell_chg HC.out el (NL.out _ ml)
    obtain ⟨z, hz⟩ : ∃ z, z = (putTo ws ads data lanes k)[q] := ⟨_, rfl⟩
    rw [<- hz] at cW hsucc
    have HS := Lib.hid hsucc
    have HQ := Lib.hid hq
    obtain ⟨d, hd⟩ : ∃ z, z = data[k] := ⟨_, rfl⟩
    obtain ⟨lx, hlx⟩ : ∃ z, z = lanes[k] := ⟨_, rfl⟩
    rw [<- hd] at cD
    rw [<- hlx] at cL
    have HDX := Lib.hid hd
    have HLX := Lib.hid hlx
    clear ea ed el hnw hnd hnl hq hsucc hz hd hlx ma md ml mw
    go_wp2_with fail
    have hst : ∀ F, F ∈ [FEq (.pointer (some ⟨w.heap.size, 0, none⟩)), FEq (.slice (some ⟨bw, ow, none⟩) 64 cw), FEq (.slice (some ⟨ba, oa, none⟩) nl' ca), FEq (.int .i64 (k : Int)), FEq (.pointer (some ⟨ba, oa + k, none⟩)), FEq (.int .i64 (q : Int)), FEq (.pointer (some ⟨w.heap.size, 0, none⟩)), FEq (.slice (some ⟨bw, ow, none⟩) 64 cw), FEq (.slice (some ⟨ba, oa, none⟩) nl' ca), FEq (.int .i64 (k : Int)), FEq (.pointer (some ⟨ba, oa + k, none⟩)), FEq (.int .i64 (q : Int)), FEq (.pointer (some ⟨bw, ow + q, none⟩)), FEq (.int .i64 z), FEq (.slice (some ⟨bd, od, none⟩) nl' cd), FEq (.int .i64 (k : Int)), FEq (.pointer (some ⟨bd, od + k, none⟩)), FEq (.int .i64 d), FEq (.slice (some ⟨bl, ol, none⟩) nl' cl), FEq (.int .i64 (k : Int)), FEq (.pointer (some ⟨bl, ol + k, none⟩)), FEq (.int .i64 lx), FEq (.int .i64 (wrdPut z d lx)), FEq (.pointer (some ⟨bw, ow + q, none⟩))] -> Stable [] F := by
     simp only [List.forall_mem_cons]
     exact ⟨stEq _ _, stEq _ _, stEq _ _, stEq _ _, stEq _ _, stEq _ _, stEq _ _, stEq _ _, stEq _ _, stEq _ _, stEq _ _, stEq _ _, stEq _ _, stEq _ _, stEq _ _, stEq _ _, stEq _ _, stEq _ _, stEq _ _, stEq _ _, stEq _ _, stEq _ _, stEq _ _, stEq _ _, fun _ h => by simp at h⟩
    refine wp_region_tail (by kernel_rfl) (fun i => (tbl2Put4 : List (List Nat)).getD i []) (facts [FEq (.pointer (some ⟨w.heap.size, 0, none⟩)), FEq (.slice (some ⟨bw, ow, none⟩) 64 cw), FEq (.slice (some ⟨ba, oa, none⟩) nl' ca), FEq (.int .i64 (k : Int)), FEq (.pointer (some ⟨ba, oa + k, none⟩)), FEq (.int .i64 (q : Int)), FEq (.pointer (some ⟨w.heap.size, 0, none⟩)), FEq (.slice (some ⟨bw, ow, none⟩) 64 cw), FEq (.slice (some ⟨ba, oa, none⟩) nl' ca), FEq (.int .i64 (k : Int)), FEq (.pointer (some ⟨ba, oa + k, none⟩)), FEq (.int .i64 (q : Int)), FEq (.pointer (some ⟨bw, ow + q, none⟩)), FEq (.int .i64 z), FEq (.slice (some ⟨bd, od, none⟩) nl' cd), FEq (.int .i64 (k : Int)), FEq (.pointer (some ⟨bd, od + k, none⟩)), FEq (.int .i64 d), FEq (.slice (some ⟨bl, ol, none⟩) nl' cl), FEq (.int .i64 (k : Int)), FEq (.pointer (some ⟨bl, ol + k, none⟩)), FEq (.int .i64 lx), FEq (.int .i64 (wrdPut z d lx)), FEq (.pointer (some ⟨bw, ow + q, none⟩))]) (fun m w' => Below wr.heap.size wr w') 41 25 24 [some 16, some 17, some 18, some 19, some 20, some 21, some 22, some 23, some 24, some 25, some 26, some 27, some 28, some 29, some 30, some 31, some 32, some 33, some 34, some 35, some 36, some 37, some 38, some 39] _ rfl rfl (by decide) rfl rfl (by kernel_rfl) (by kernel_rfl) [] (by kernel_rfl) (fun g b hm v w h => by simp at hm) ?h0 (all_lt (n := 24) ?hop) ?hend
    case h0 => exact (Below.refl _ _).drew
    case hop =>
     refine ⟨⟨⟨⟨⟨⟨⟨⟨⟨⟨⟨⟨⟨⟨⟨⟨⟨⟨⟨⟨⟨⟨⟨⟨trivial, ?_⟩, ?_⟩, ?_⟩, ?_⟩, ?_⟩, ?_⟩, ?_⟩, ?_⟩, ?_⟩, ?_⟩, ?_⟩, ?_⟩, ?_⟩, ?_⟩, ?_⟩, ?_⟩, ?_⟩, ?_⟩, ?_⟩, ?_⟩, ?_⟩, ?_⟩, ?_⟩, ?_⟩
     · refine Owes.q 41 (fun u => [(4, .pointer (some ⟨w.heap.size, 0, none⟩))]) fun u w' hI hR => ?_; dsimp only [frm, List.foldl, List.replicate, List.set]; clear hI hst hR; go_wp2; exact ⟨rfl, _, rfl, rfl, rfl⟩
     · refine Owes.q 41 (fun u => [(16, u 0)]) fun u w' hI hR => ?_; dsimp only [frm, List.foldl, List.replicate, List.set]; obtain ⟨_, hI⟩ := hI; have k0 := keep_cell hI c0; have e0 : u 0 = _ := hR 0 (by decide); rw [e0]; clear hI hst hR; go_wp2; exact ⟨rfl, _, rfl, rfl, rfl⟩
     · refine Owes.q 41 (fun u => [(1, .slice (some ⟨ba, oa, none⟩) nl' ca)]) fun u w' hI hR => ?_; dsimp only [frm, List.foldl, List.replicate, List.set]; clear hI hst hR; go_wp2; exact ⟨rfl, _, rfl, rfl, rfl⟩
     · refine Owes.q 41 (fun u => [(9, .int .i64 (k : Int))]) fun u w' hI hR => ?_; dsimp only [frm, List.foldl, List.replicate, List.set]; clear hI hst hR; go_wp2; exact ⟨rfl, _, rfl, rfl, rfl⟩
     · refine Owes.q 41 (fun u => [(18, u 2), (19, u 3)]) fun u w' hI hR => ?_; dsimp only [frm, List.foldl, List.replicate, List.set]; have e2 : u 2 = _ := hR 2 (by decide); have e3 : u 3 = _ := hR 3 (by decide); rw [e2, e3]; clear hI hst hR; go_wp2; exact ⟨rfl, _, rfl, rfl, rfl⟩
     · refine Owes.q 41 (fun u => [(20, u 4)]) fun u w' hI hR => ?_; dsimp only [frm, List.foldl, List.replicate, List.set]; obtain ⟨_, hI⟩ := hI; have k1 := keep_cell hI cA; have e4 : u 4 = _ := hR 4 (by decide); rw [e4]; clear hI hst hR; go_wp2; exact ⟨rfl, _, rfl, rfl, rfl⟩
     · refine Owes.q 41 (fun u => [(4, .pointer (some ⟨w.heap.size, 0, none⟩))]) fun u w' hI hR => ?_; dsimp only [frm, List.foldl, List.replicate, List.set]; clear hI hst hR; go_wp2; exact ⟨rfl, _, rfl, rfl, rfl⟩
     · refine Owes.q 41 (fun u => [(22, u 6)]) fun u w' hI hR => ?_; dsimp only [frm, List.foldl, List.replicate, List.set]; obtain ⟨_, hI⟩ := hI; have k0 := keep_cell hI c0; have e6 : u 6 = _ := hR 6 (by decide); rw [e6]; clear hI hst hR; go_wp2; exact ⟨rfl, _, rfl, rfl, rfl⟩
     · refine Owes.q 41 (fun u => [(1, .slice (some ⟨ba, oa, none⟩) nl' ca)]) fun u w' hI hR => ?_; dsimp only [frm, List.foldl, List.replicate, List.set]; clear hI hst hR; go_wp2; exact ⟨rfl, _, rfl, rfl, rfl⟩
     · refine Owes.q 41 (fun u => [(9, .int .i64 (k : Int))]) fun u w' hI hR => ?_; dsimp only [frm, List.foldl, List.replicate, List.set]; clear hI hst hR; go_wp2; exact ⟨rfl, _, rfl, rfl, rfl⟩
     · refine Owes.q 41 (fun u => [(24, u 8), (25, u 9)]) fun u w' hI hR => ?_; dsimp only [frm, List.foldl, List.replicate, List.set]; have e8 : u 8 = _ := hR 8 (by decide); have e9 : u 9 = _ := hR 9 (by decide); rw [e8, e9]; clear hI hst hR; go_wp2; exact ⟨rfl, _, rfl, rfl, rfl⟩
     · refine Owes.q 41 (fun u => [(26, u 10)]) fun u w' hI hR => ?_; dsimp only [frm, List.foldl, List.replicate, List.set]; obtain ⟨_, hI⟩ := hI; have k1 := keep_cell hI cA; have e10 : u 10 = _ := hR 10 (by decide); rw [e10]; clear hI hst hR; go_wp2; exact ⟨rfl, _, rfl, rfl, rfl⟩
     · refine Owes.q 41 (fun u => [(23, u 7), (27, u 11)]) fun u w' hI hR => ?_; dsimp only [frm, List.foldl, List.replicate, List.set]; have e7 : u 7 = _ := hR 7 (by decide); have e11 : u 11 = _ := hR 11 (by decide); rw [e7, e11]; clear hI hst hR; go_wp2; exact ⟨rfl, _, rfl, rfl, rfl⟩
     · refine Owes.q 41 (fun u => [(28, u 12)]) fun u w' hI hR => ?_; dsimp only [frm, List.foldl, List.replicate, List.set]; obtain ⟨_, hI⟩ := hI; have k4 := keep_cell hI cW; have e12 : u 12 = _ := hR 12 (by decide); rw [e12]; clear hI hst hR; go_wp2; exact ⟨rfl, _, rfl, rfl, rfl⟩
     · refine Owes.q 41 (fun u => [(2, .slice (some ⟨bd, od, none⟩) nl' cd)]) fun u w' hI hR => ?_; dsimp only [frm, List.foldl, List.replicate, List.set]; clear hI hst hR; go_wp2; exact ⟨rfl, _, rfl, rfl, rfl⟩
     · refine Owes.q 41 (fun u => [(9, .int .i64 (k : Int))]) fun u w' hI hR => ?_; dsimp only [frm, List.foldl, List.replicate, List.set]; clear hI hst hR; go_wp2; exact ⟨rfl, _, rfl, rfl, rfl⟩
     · refine Owes.q 41 (fun u => [(30, u 14), (31, u 15)]) fun u w' hI hR => ?_; dsimp only [frm, List.foldl, List.replicate, List.set]; have e14 : u 14 = _ := hR 14 (by decide); have e15 : u 15 = _ := hR 15 (by decide); rw [e14, e15]; clear hI hst hR; go_wp2; exact ⟨rfl, _, rfl, rfl, rfl⟩
     · refine Owes.q 41 (fun u => [(32, u 16)]) fun u w' hI hR => ?_; dsimp only [frm, List.foldl, List.replicate, List.set]; obtain ⟨_, hI⟩ := hI; have k2 := keep_cell hI cD; have e16 : u 16 = _ := hR 16 (by decide); rw [e16]; clear hI hst hR; go_wp2; exact ⟨rfl, _, rfl, rfl, rfl⟩
     · refine Owes.q 41 (fun u => [(3, .slice (some ⟨bl, ol, none⟩) nl' cl)]) fun u w' hI hR => ?_; dsimp only [frm, List.foldl, List.replicate, List.set]; clear hI hst hR; go_wp2; exact ⟨rfl, _, rfl, rfl, rfl⟩
     · refine Owes.q 41 (fun u => [(9, .int .i64 (k : Int))]) fun u w' hI hR => ?_; dsimp only [frm, List.foldl, List.replicate, List.set]; clear hI hst hR; go_wp2; exact ⟨rfl, _, rfl, rfl, rfl⟩
     · refine Owes.q 41 (fun u => [(34, u 18), (35, u 19)]) fun u w' hI hR => ?_; dsimp only [frm, List.foldl, List.replicate, List.set]; have e18 : u 18 = _ := hR 18 (by decide); have e19 : u 19 = _ := hR 19 (by decide); rw [e18, e19]; clear hI hst hR; go_wp2; exact ⟨rfl, _, rfl, rfl, rfl⟩
     · refine Owes.q 41 (fun u => [(36, u 20)]) fun u w' hI hR => ?_; dsimp only [frm, List.foldl, List.replicate, List.set]; obtain ⟨_, hI⟩ := hI; have k3 := keep_cell hI cL; have e20 : u 20 = _ := hR 20 (by decide); rw [e20]; clear hI hst hR; go_wp2; exact ⟨rfl, _, rfl, rfl, rfl⟩
     · refine Owes.mk _ rfl rfl (fun _ _ h => by cases h) fun u m w' hm hI hR => ⟨⟨(frm 41 [(29, u 13), (33, u 17), (37, u 21)]).toArray, []⟩, rfl, fun d hd => by cases hd; exact frm_lt (by decide), ?_⟩
       dsimp only [frm, List.foldl, List.replicate, List.set]
       have e13 : u 13 = _ := hR 13 (by decide)
       have e17 : u 17 = _ := hR 17 (by decide)
       have e21 : u 21 = _ := hR 21 (by decide)
       have k0 := keep_cell hI c0
       have k1 := keep_cell hI cA
       have k2 := keep_cell hI cD
       have k3 := keep_cell hI cL
       have k4 := keep_cell hI cW
       rw [e13, e17, e21]
       clear e13 e17 e21
       have HI := Lib.hid hI
       clear hI hst hR
       go_wp2_with fail
       refine (sWrdPut_any _ _ _ _).mono ?_
       rintro e w5 ⟨rfl, rfl⟩
       go_wp2
       exact ⟨rfl, _, rfl, rfl, HI.out, fun _ _ h => h⟩
     · refine Owes.q 41 (fun u => [(17, u 1), (21, u 5)]) fun u w' hI hR => ?_; dsimp only [frm, List.foldl, List.replicate, List.set]; have e1 : u 1 = _ := hR 1 (by decide); have e5 : u 5 = _ := hR 5 (by decide); rw [e1, e5]; clear hI hst hR; go_wp2; exact ⟨rfl, _, rfl, rfl, rfl⟩
    case hend =>
     intro u w' hI hR
     simp only [setAll, List.set_cons_zero, List.set_cons_succ]
     have e22 : u 22 = _ := hR 22 (by decide)
     have e23 : u 23 = _ := hR 23 (by decide)
     rw [e22, e23]
     have fW := keep_free hI (block_of_cell cW) fW
     have cW := keep_cell hI cW
     have GIw := Lib.hid (SlR.below intR_fits GI.out hI)
     have HCw := Lib.hid (HC.out.trans' (hI.chg fw))
     have HFw := Lib.hid (HF.out.below (fun b hb => GI.out.lt intR_fits b hb) hI)
     clear hR hI hst e22 e23 GI HC HF c0 cA cD cL
     go_wp2
     go_roundw
     case rel =>
      obtain ⟨t1, t2, t3⟩ := IntS.set GIw.out rfl hq64 (wrdPut z d lx)
      refine ⟨k + 1, by omega, by go_num, ?_, HCw.out.trans' t2, HFw.out.setCell _ _⟩
      rw [HS.out, <- HDX.out, <- HLX.out]
      exact t1
     case measure => simp [intOf]; omega
  · have hkn : k = ads.length := by rw [hn.out]; omega
    have HP := GI.out
    have c0 := keep_cell_chg HC.out c0 n0
    have r0 := keep_cell_chg HC.out r0 n1
    have rf := (World.frozen?_of_block (HC.out.block (w.heap.size + 1) (by have := Z1.out; omega) n1)).trans rf
    have hch : Chg fw w wr := (B1.out.chg fw).trans' HC.out
    have HP := Lib.hid HP
    have HCH := Lib.hid hch
    have HKN := Lib.hid hkn
    clear HC GI hch hkn
    go_wp2
    refine bodyPost_ret (v := .agg #[.slice aw nw cw]) (by simp [results, Tryz.results87, go_sem, setSame1 r0]) rfl ?_
    refine ⟨rfl, ?_, (HCH.out.trans (store_chg _)).drop (fun b hb hl => ?_), HF.out.setCell _ _⟩
    · have := HP.out
      rw [HKN.out] at this
      exact this.chg intR_fits (store_chg _) (fun b hb => by simp; exact fun e => n1 (e ▸ hb))
    · rcases List.mem_append.1 hb with hb | hb
      · exact hb
      · simp at hb; omega
end Go.Proofs.YtaeiddoccfaheaaGreat
