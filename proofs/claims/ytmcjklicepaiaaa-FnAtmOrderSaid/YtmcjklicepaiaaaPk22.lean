/-
 Texts of this claim laid together: TC.
-/
import Derived.Test.YtmcjklicepaiaaaPk21
import Derived.Test.YtmcjklicepaiaaaPk16
import Derived.Test.YtmcjklicepaiaaaPk19
import Derived.Test.YtmcjklicepaiaaaPk08
set_option linter.unusedVariables false
set_option linter.unusedSimpArgs false
namespace Go.Proofs.Ytmcjklicepaiaaa
def tbl5List5 : List (List Nat) := [[], [], [], [1, 2], [1, 2, 3], [1, 2, 3, 4], [], [], [6, 7], [6, 7, 8], [6, 7, 8, 9], [], [], [11, 12], [11, 12, 13], [11, 12, 13, 14], [11, 12, 13, 14, 15], [1, 2, 3, 4, 5, 6, 7, 8, 9, 10, 11, 12, 13, 14, 15, 16], [1, 2, 3, 4, 5, 6, 7, 8, 9, 10, 11, 12, 13, 14, 15, 16, 17], [0, 1, 2, 3, 4, 5, 6, 7, 8, 9, 10, 11, 12, 13, 14, 15, 16, 17, 18], [0, 1, 2, 3, 4, 5, 6, 7, 8, 9, 10, 11, 12, 13, 14, 15, 16, 17, 18, 19]]
def tbl4Copy1 : List (List Nat) := [[], [0], [0, 1], [], [], [4], [0, 1, 2, 3, 4, 5], [0, 1, 2, 3, 4, 5, 6], [0, 1, 2, 3, 4, 5, 6, 7]]
def tbl5Copy1 : List (List Nat) := [[], [0], [0, 1], [], [], [4], [0, 1, 2, 3, 4, 5], [], [7], [0, 1, 2, 3, 4, 5, 6, 7, 8], [], [10], [0, 1, 2, 3, 4, 5, 6, 7, 8, 9, 10, 11], [], [13], [0, 1, 2, 3, 4, 5, 6, 7, 8, 9, 10, 11, 12, 13, 14], [0, 1, 2, 3, 4, 5, 6, 7, 8, 9, 10, 11, 12, 13, 14, 15], [0, 1, 2, 3, 4, 5, 6, 7, 8, 9, 10, 11, 12, 13, 14, 15, 16]]
open Go.RowKit Go.ChangeShapes Go.WideShapes
set_option maxRecDepth 100000 in
set_option maxHeartbeats 3200000 in
theorem l5List_b (v : Value) (l : List Job) (fp : List Nat) (hs : l.length <= 1048576) (hd4 : ∀ j, j ∈ l -> j.rsp.data.length <= 4) (w : World) (g : SlR 5 jobR w l v fp) :
 Calls Try.prog 140 #[v] w fun e w' => ∃ v' fp', e = .returned v' ∧ SlR 5 jobR w' l v' fp' ∧ New fp' w w' ∧ Below w.heap.size w w' := by
 obtain ⟨a, n, cap, rfl, hn, hcap, hmax, hcm, r⟩ := g.opened
 have hns : n <= 1048576 := by rw [<- hn.out]; exact hs
 have HS4 := Lib.hid hd4
 clear g hs hd4
 obtain ⟨i0, hi, hz0, hz1, hz2⟩ := info_parts infoJob
 go_enter Try.func140, Try.ntmps140
 go_wp2_with fail
 go_loopw [3, 4] (fun v i wr => ∃ k : Nat, k <= n ∧ i = .int .i64 k ∧ OwnE 5 jobR 64 w.heap.size wr v (l.take k) ∧ Below w.heap.size w wr) (fun _ i _ => n - (intOf i).toNat)
 case atStart => exact ⟨0, Nat.zero_le _, rfl, by simpa using OwnE.lit w (Nat.le_refl _), below_alloc _ _⟩
 case round =>
  obtain ⟨k, hk, rfl, hown, hbel⟩ := hrel
  have hml : (l.take k).length <= 1048576 := by have := List.length_take_le k l; omega
  have HO := Lib.hid hown
  have HB := Lib.hid hbel
  clear hown
  by_cases hlt : k < n
  · have hlti : (k : Int) < (n : Int) := by omega
    obtain ⟨i1, b1, o1, f1, cs, rfl, hb1, _, _, ⟨dv, df, rfl, rfl, hd⟩, e1⟩ := r k hlt
    obtain ⟨da, dn, dc, rfl⟩ := hd.form
    have c0 := keep_cell hbel (e1 0 (by simp))
    have c1 := keep_cell hbel (e1 1 (by simp))
    have c2 := keep_cell hbel (e1 2 (by simp))
    have c3 := keep_cell hbel (e1 3 (by simp))
    have c4 := keep_cell hbel (e1 4 (by simp))
    simp only [Nat.add_zero, List.getElem_cons_zero, List.getElem_cons_succ] at c0 c1 c2 c3 c4
    have GD := Lib.hid (SlR.below intR_fits hd hbel)
    have SD : Hid (l[k].rsp.data.length <= 1048576) := Lib.hid (by have := HS4.out _ (List.getElem_mem i1); omega)
    have htk : l.take (k + 1) = l.take k ++ [l[k]] := List.take_succ_eq_append_getElem i1
    obtain ⟨y, hy⟩ : ∃ z, z = l[k] := ⟨_, rfl⟩
    rw [<- hy] at c0 c1 c2 c3 htk GD SD
    have HTK := Lib.hid htk
    clear r e1 hbel hd hy htk
    go_wp2_with fail
    have hst : ∀ F, F ∈ [FEq (u3), FEq (.slice (some ⟨b1, o1, none⟩) n cap), FEq (.int .i64 (k : Int)), FEq (.pointer (some ⟨b1, o1 + k * 5, none⟩)), FEq (.pointer (some ⟨b1, o1 + k * 5, none⟩)), FEq (.int .i64 y.who), FEq (.slice (some ⟨b1, o1, none⟩) n cap), FEq (.int .i64 (k : Int)), FEq (.pointer (some ⟨b1, o1 + k * 5, none⟩)), FEq (.pointer (some ⟨b1, o1 + k * 5 + 1, none⟩)), FEq (.int .i64 y.n), FEq (.slice (some ⟨b1, o1, none⟩) n cap), FEq (.int .i64 (k : Int)), FEq (.pointer (some ⟨b1, o1 + k * 5, none⟩)), FEq (.pointer (some ⟨b1, o1 + k * 5 + 2, none⟩)), FEq (.agg #[.int .i64 y.rsp.id, .int .i64 y.rsp.code, .slice da dn dc]), FRspN wr y.rsp, FJobN wr y, FEl1 wr jobR y] -> Stable [] F := by
     simp only [List.forall_mem_cons]
     exact ⟨stEq _ _, stEq _ _, stEq _ _, stEq _ _, stEq _ _, stEq _ _, stEq _ _, stEq _ _, stEq _ _, stEq _ _, stEq _ _, stEq _ _, stEq _ _, stEq _ _, stEq _ _, stEq _ _, stRspN _ _, stJobN _ _, stEl1 jobR_fits _ _, fun _ h => by simp at h⟩
    refine wp_region_tail (by kernel_rfl) (fun i => (tbl5List5 : List (List Nat)).getD i []) (facts [FEq (u3), FEq (.slice (some ⟨b1, o1, none⟩) n cap), FEq (.int .i64 (k : Int)), FEq (.pointer (some ⟨b1, o1 + k * 5, none⟩)), FEq (.pointer (some ⟨b1, o1 + k * 5, none⟩)), FEq (.int .i64 y.who), FEq (.slice (some ⟨b1, o1, none⟩) n cap), FEq (.int .i64 (k : Int)), FEq (.pointer (some ⟨b1, o1 + k * 5, none⟩)), FEq (.pointer (some ⟨b1, o1 + k * 5 + 1, none⟩)), FEq (.int .i64 y.n), FEq (.slice (some ⟨b1, o1, none⟩) n cap), FEq (.int .i64 (k : Int)), FEq (.pointer (some ⟨b1, o1 + k * 5, none⟩)), FEq (.pointer (some ⟨b1, o1 + k * 5 + 2, none⟩)), FEq (.agg #[.int .i64 y.rsp.id, .int .i64 y.rsp.code, .slice da dn dc]), FRspN wr y.rsp, FJobN wr y, FEl1 wr jobR y]) (fun m w' => Below wr.heap.size wr w') 33 21 19 [some 12, some 13, some 14, some 15, some 16, some 17, some 18, some 19, some 20, some 21, some 22, some 23, some 24, some 25, some 26, some 27, some 28, some 29, some 30] _ rfl rfl (by decide) rfl rfl (by kernel_rfl) (by kernel_rfl) [] (by kernel_rfl) (fun g b hm v w h => by simp at hm) ?h0 (all_lt (n := 19) ?hop) ?hend
    case h0 => exact (Below.refl _ _).drew
    case hop =>
     refine ⟨⟨⟨⟨⟨⟨⟨⟨⟨⟨⟨⟨⟨⟨⟨⟨⟨⟨⟨trivial, ?_⟩, ?_⟩, ?_⟩, ?_⟩, ?_⟩, ?_⟩, ?_⟩, ?_⟩, ?_⟩, ?_⟩, ?_⟩, ?_⟩, ?_⟩, ?_⟩, ?_⟩, ?_⟩, ?_⟩, ?_⟩, ?_⟩
     · refine Owes.q 33 (fun u => [(3, u3)]) fun u w' hI hR => ?_; dsimp only [frm, List.foldl, List.replicate, List.set]; clear hI hst hR; go_wp2; exact ⟨rfl, _, rfl, rfl, rfl⟩
     · refine Owes.q 33 (fun u => [(0, .slice (some ⟨b1, o1, none⟩) n cap)]) fun u w' hI hR => ?_; dsimp only [frm, List.foldl, List.replicate, List.set]; clear hI hst hR; go_wp2; exact ⟨rfl, _, rfl, rfl, rfl⟩
     · refine Owes.q 33 (fun u => [(4, .int .i64 (k : Int))]) fun u w' hI hR => ?_; dsimp only [frm, List.foldl, List.replicate, List.set]; clear hI hst hR; go_wp2; exact ⟨rfl, _, rfl, rfl, rfl⟩
     · refine Owes.q 33 (fun u => [(13, u 1), (14, u 2)]) fun u w' hI hR => ?_; dsimp only [frm, List.foldl, List.replicate, List.set]; have e1 : u 1 = _ := hR 1 (by decide); have e2 : u 2 = _ := hR 2 (by decide); rw [e1, e2]; clear hI hst hR; go_wp2; exact ⟨rfl, _, rfl, rfl, rfl⟩
     · refine Owes.q 33 (fun u => [(15, u 3)]) fun u w' hI hR => ?_; dsimp only [frm, List.foldl, List.replicate, List.set]; have e3 : u 3 = _ := hR 3 (by decide); rw [e3]; clear hI hst hR; go_wp2; exact ⟨rfl, _, rfl, rfl, rfl⟩
     · refine Owes.q 33 (fun u => [(16, u 4)]) fun u w' hI hR => ?_; dsimp only [frm, List.foldl, List.replicate, List.set]; obtain ⟨_, hI⟩ := hI; have k0 := keep_cell hI c0; have e4 : u 4 = _ := hR 4 (by decide); rw [e4]; clear hI hst hR; go_wp2; exact ⟨rfl, _, rfl, rfl, rfl⟩
     · refine Owes.q 33 (fun u => [(0, .slice (some ⟨b1, o1, none⟩) n cap)]) fun u w' hI hR => ?_; dsimp only [frm, List.foldl, List.replicate, List.set]; clear hI hst hR; go_wp2; exact ⟨rfl, _, rfl, rfl, rfl⟩
     · refine Owes.q 33 (fun u => [(4, .int .i64 (k : Int))]) fun u w' hI hR => ?_; dsimp only [frm, List.foldl, List.replicate, List.set]; clear hI hst hR; go_wp2; exact ⟨rfl, _, rfl, rfl, rfl⟩
     · refine Owes.q 33 (fun u => [(18, u 6), (19, u 7)]) fun u w' hI hR => ?_; dsimp only [frm, List.foldl, List.replicate, List.set]; have e6 : u 6 = _ := hR 6 (by decide); have e7 : u 7 = _ := hR 7 (by decide); rw [e6, e7]; clear hI hst hR; go_wp2; exact ⟨rfl, _, rfl, rfl, rfl⟩
     · refine Owes.q 33 (fun u => [(20, u 8)]) fun u w' hI hR => ?_; dsimp only [frm, List.foldl, List.replicate, List.set]; have e8 : u 8 = _ := hR 8 (by decide); rw [e8]; clear hI hst hR; go_wp2; exact ⟨rfl, _, rfl, rfl, rfl⟩
     · refine Owes.q 33 (fun u => [(21, u 9)]) fun u w' hI hR => ?_; dsimp only [frm, List.foldl, List.replicate, List.set]; obtain ⟨_, hI⟩ := hI; have k1 := keep_cell hI c1; have e9 : u 9 = _ := hR 9 (by decide); rw [e9]; clear hI hst hR; go_wp2; exact ⟨rfl, _, rfl, rfl, rfl⟩
     · refine Owes.q 33 (fun u => [(0, .slice (some ⟨b1, o1, none⟩) n cap)]) fun u w' hI hR => ?_; dsimp only [frm, List.foldl, List.replicate, List.set]; clear hI hst hR; go_wp2; exact ⟨rfl, _, rfl, rfl, rfl⟩
     · refine Owes.q 33 (fun u => [(4, .int .i64 (k : Int))]) fun u w' hI hR => ?_; dsimp only [frm, List.foldl, List.replicate, List.set]; clear hI hst hR; go_wp2; exact ⟨rfl, _, rfl, rfl, rfl⟩
     · refine Owes.q 33 (fun u => [(23, u 11), (24, u 12)]) fun u w' hI hR => ?_; dsimp only [frm, List.foldl, List.replicate, List.set]; have e11 : u 11 = _ := hR 11 (by decide); have e12 : u 12 = _ := hR 12 (by decide); rw [e11, e12]; clear hI hst hR; go_wp2; exact ⟨rfl, _, rfl, rfl, rfl⟩
     · refine Owes.q 33 (fun u => [(25, u 13)]) fun u w' hI hR => ?_; dsimp only [frm, List.foldl, List.replicate, List.set]; have e13 : u 13 = _ := hR 13 (by decide); rw [e13]; clear hI hst hR; go_wp2; exact ⟨rfl, _, rfl, rfl, rfl⟩
     · refine Owes.q 33 (fun u => [(26, u 14)]) fun u w' hI hR => ?_; dsimp only [frm, List.foldl, List.replicate, List.set]; obtain ⟨_, hI⟩ := hI; have k2 := keep_cell hI c2; have k3 := keep_cell hI c3; have k4 := keep_cell hI c4; have e14 : u 14 = _ := hR 14 (by decide); rw [e14]; clear hI hst hR; go_wp2; exact ⟨rfl, _, rfl, rfl, rfl⟩
     · refine Owes.mk _ rfl rfl (fun _ _ h => by cases h) fun u m w' hm hI hR => ⟨⟨(frm 33 [(27, u 15)]).toArray, []⟩, rfl, fun d hd => by cases hd; exact frm_lt (by decide), ?_⟩
       dsimp only [frm, List.foldl, List.replicate, List.set]
       have e15 : u 15 = _ := hR 15 (by decide)
       have k0 := keep_cell hI c0
       have k1 := keep_cell hI c1
       have k2 := keep_cell hI c2
       have k3 := keep_cell hI c3
       have k4 := keep_cell hI c4
       rw [e15]
       clear e15
       have GG := Lib.hid (SlR.below intR_fits GD.out hI)
       have HI := Lib.hid hI
       clear hI hR
       go_wp2_with fail
       refine (l5Rsp_any y.rsp _ _ SD.out _ GG.out).mono ?_
       rintro e w7 ⟨v7, f7, rfl, s7, n7, b7⟩
       have HX := Lib.hid s7
       have HN : Hid (New f7 wr w7) := Lib.hid ⟨fun b hb => Nat.le_trans HI.out.size (n7.lo b hb), n7.once, n7.free⟩
       have HS7 := Lib.hid (facts_stable hst (b7.chg []))
       have HI7 := Lib.hid (HI.out.trans (b7.mono HI.out.size))
       clear b7 hst s7 n7
       go_wp2
       exact ⟨rfl, _, rfl, ⟨_, f7, rfl, HX.out, HN.out⟩, HI7.out, HS7.out⟩
     · refine Owes.mk _ rfl rfl (fun _ _ h => by cases h) fun u m w' hm hI hR => ⟨⟨(frm 33 [(17, u 5), (22, u 10), (28, u 16)]).toArray, []⟩, rfl, fun d hd => by cases hd; exact frm_lt (by decide), ?_⟩
       dsimp only [frm, List.foldl, List.replicate, List.set]
       have e5 : u 5 = _ := hR 5 (by decide)
       have e10 : u 10 = _ := hR 10 (by decide)
       have k0 := keep_cell hI c0
       have k1 := keep_cell hI c1
       have k2 := keep_cell hI c2
       have k3 := keep_cell hI c3
       have k4 := keep_cell hI c4
       rw [e5, e10]
       clear e5 e10
       obtain ⟨dv, f, e16, s16, n16⟩ := hR 16 (by decide)
       rw [e16]
       have HX := Lib.hid s16
       have HN := Lib.hid n16
       have HI := Lib.hid hI
       clear hI hst hR e16 s16 n16
       go_wp2
       exact ⟨rfl, _, rfl, ⟨_, f, rfl, HX.out, HN.out⟩, HI.out, fun _ _ h => h⟩
     · refine Owes.mk _ rfl rfl (fun _ _ h => by cases h) fun u m w' hm hI hR => ⟨⟨(frm 33 [(29, u 17)]).toArray, []⟩, rfl, fun d hd => by cases hd; exact frm_lt (by decide), ?_⟩
       dsimp only [frm, List.foldl, List.replicate, List.set]
       have k0 := keep_cell hI c0
       have k1 := keep_cell hI c1
       have k2 := keep_cell hI c2
       have k3 := keep_cell hI c3
       have k4 := keep_cell hI c4
       obtain ⟨dv, f, e17, s17, n17⟩ := hR 17 (by decide)
       rw [e17]
       obtain ⟨ea, en, ec, rfl⟩ := s17.form
       have HI := Lib.hid hI
       have hba := below_alloc w' (.cells #[.int .i64 y.who, .int .i64 y.n, .int .i64 y.rsp.id, .int .i64 y.rsp.code, .slice ea en ec] 64)
       have HX := Lib.hid (SlR.below intR_fits s17 hba)
       have HN := Lib.hid (n17.later (s17.lt intR_fits) (hba.chg []))
       have HS8 := Lib.hid (facts_stable hst (hba.chg []))
       have HB8 := Lib.hid (hI.trans (hba.mono hI.size))
       clear hI hst hR e17 s17 n17 hba
       go_wp2
       exact ⟨rfl, _, rfl, ⟨_, _, f, rfl, ⟨_, _, rfl, rfl, HX.out⟩, HN.out, fun b hb => HX.out.lt intR_fits b hb, by simp, rfl, fun j hj => by rw [add_plain, Nat.zero_add]; exact alloc1_new _ _ _ j (by rw [<- Array.getElem?_toList]; exact List.getElem?_eq_getElem hj), by simp [Value.oneCell']⟩, HB8.out, HS8.out⟩
    case hend =>
     intro u w' hI hR
     simp only [setAll, List.set_cons_zero, List.set_cons_succ]
     have e0 : u 0 = _ := hR 0 (by decide)
     obtain ⟨A, cs, f, e18, h1, h2, h3, h4, h5, h6, h7⟩ := hR 18 (by decide)
     rw [e0, e18]
     refine wpList_pushP (R := jobR) (K := 5) (W := wr) (l := l.take k) (x := y) rfl _ _ 56 64 i0 (.agg #[.int .i64 0, .int .i64 0, .int .i64 0, .int .i64 0, .slice none 0 0]) 56 jobR_fits rfl Try.underlying56 hi hz0 hz1 hz2 rfl (by decide) (by decide) rfl rfl HO.out hI h1 h2 h6 h7 (by omega) HB.out.size ?_
     intro v' w6 ho hb hb'
     have HO2 := Lib.hid ho
     have HB2 := Lib.hid (HB.out.trans hb)
     clear hR hst e0 e18 h1 h2 h3 h4 h5 h6 h7 hI ho hb hb' c0 c1 c2 c3 c4
     go_wp2
     go_roundw
     case rel => exact ⟨k + 1, by omega, by go_num, by rw [HTK.out]; exact HO2.out, HB2.out⟩
     case measure => simp [intOf]; omega
  · have hall : l.take k = l := List.take_of_length_le (by rw [hn.out]; omega)
    have ho := HO.out
    rw [hall] at ho
    obtain ⟨fp', g1, g2, g3, g4⟩ := ho.reads jobR_fits
    have HG1 := Lib.hid g1
    have HG2 := Lib.hid g2
    have HG3 := Lib.hid g3
    have HG4 := Lib.hid g4
    clear r hbel ho hall g1 g2 g3 g4
    go_wp2
    go_ret
    exact ⟨_, fp', rfl, HG1.out, ⟨HG2.out, HG3.out, HG4.out⟩, HB.out⟩
set_option maxRecDepth 100000 in
set_option maxHeartbeats 3200000 in
theorem l2Copy_b (ms : List Int) (v : Value) (fp : List Nat) (hs : ms.length <= 1000) (w : World) (g : SlR 1 intR w ms v fp) :
 Calls Try.prog 152 #[.agg #[v]] w fun e w' => ∃ v' fp', e = .returned (.agg #[v']) ∧ SlR 1 intR w' ms v' fp' ∧ New fp' w w' ∧ Below w.heap.size w w' := by
 obtain ⟨a, n, c, rfl⟩ := g.form
 obtain ⟨i0, hi, hz0, hz1, hz2⟩ := info_parts infoInt
 have hn : ms.length = n := by
  have h' := g
  obtain ⟨_, _, _, e, h2, _⟩ := h'
  cases e; exact h2
 obtain ⟨w0, hw0⟩ : ∃ z, z = (w.alloc (.cells #[.slice a n c] 66)).alloc (.cells #[.slice none 0 0] 66) := ⟨_, rfl⟩
 have b0 : Below w.heap.size w w0 := by rw [hw0]; exact (below_alloc _ _).trans ((below_alloc _ _).mono (by simp))
 have c0 : w0.cell? ⟨w.heap.size, 0, none⟩ = some (.slice a n c) := by rw [hw0]; exact alloc2_old _ _ _ _ _ 0 rfl
 have r0 : RoomAt (w.heap.size + 1) 1 w0 := by rw [hw0]; exact room_alloc (by simp) (by simp)
 have G := Lib.hid (SlR.below intR_fits g b0)
 have B := Lib.hid b0
 have R := Lib.hid r0
 clear g b0 r0
 go_enter Try.func152, Try.ntmps152
 go_upto_region 1 with fail
 rw [<- hw0]
 clear hw0
 have ba := below_alloc w0 (.cells #[] 3)
 have c0 := keep_cell ba c0
 have GG : SlR 1 (flatR IntC) (w0.alloc (.cells #[] 3)) ms (.slice a n c) fp := SlR.below intR_fits G.out ba
 have OL : OwnR 1 IntC 3 w0.heap.size (w0.alloc (.cells #[] 3)) (.slice (some ⟨w0.heap.size, 0, none⟩) 0 0) [] := OwnR.lit w0 #[] 0 [] IntC_len rfl rfl (Nat.le_refl _) (Nat.zero_le _)
 have HGG := Lib.hid GG
 have HOL := Lib.hid OL
 have hmx : n <= 2000000 := by omega
 have hsz := Lib.hid (show w0.heap.size <= (w0.alloc (.cells #[] 3)).heap.size by simp)
 have R2 := Lib.hid (R.out.below ba)
 have B2 := Lib.hid (B.out.trans (ba.mono B.out.size))
 clear GG OL ba
 go_wp2_with (at_builtin; refine wpList_append_lit (K := 1) (c := IntC) (news := ms) rfl _ _ 24 3 i0 (.int .i64 0) 8 IntC_len rfl Try.underlying24 hi hz0 hz1 hz2 rfl (by decide) (by decide) rfl rfl HOL.out HGG.out hsz.out hmx ?_; intro v' w2 ho hb; obtain ⟨va, vn, vc, rfl, _⟩ := OwnR.slice ho; obtain ⟨_, hr, f⟩ := R2.out.below hb; obtain ⟨y0, p0⟩ := hr 0 (by omega); have f0 := f 0; clear hr; have HO := Lib.hid ho; have HB := Lib.hid (B2.out.trans (hb.mono B2.out.size)); clear f ho hb HGG HOL)
 have hc : Chg [w.heap.size + 1] w2 (w2.setCell ⟨w.heap.size + 1, 0, none⟩ (.slice va vn vc)) := store_chg _
 obtain ⟨fp', g1, g2, g3, g4⟩ := intRow_reads HO.out
 have hz := B.out.size
 have hz2 := R.out.1
 have hd : ∀ b, b ∈ fp' -> b ∉ [w.heap.size + 1] := fun b hb hm => by have := g2 b hb; simp at hm; omega
 exact bodyPost_ret (v := .agg #[.slice va vn vc]) (by simp [results, Try.results152, go_sem, setSame1 p0]) rfl ⟨_, fp', rfl, g1.chg intR_fits hc hd, ⟨fun b hb => by have := g2 b hb; omega, g3, g4.chg (g1.lt intR_fits) hc hd⟩, ((HB.out.chg [w.heap.size + 1]).trans' hc).home (fun b hb => by simp at hb; omega)⟩
def FNw {α : Type} (B : Nat) (k : Nat) (R : Pr α) (l : List α) : Fact := fun v w => ∃ fp, SlR k R w l v fp ∧ ∀ b, b ∈ fp -> B <= b
theorem stNw {α : Type} {k : Nat} {R : Pr α} (F : Fits k R) (B : Nat) (l : List α) : Stable [] (FNw B k R l) := fun _ _ _ ⟨fp, h, hn⟩ hc => ⟨fp, h.chg F hc (fun _ _ => by simp), hn⟩
def FMem1 (B : Nat) (ms : List Int) : Fact := fun v w => ∃ dv, v = .agg #[dv] ∧ FNw B 1 intR ms dv w
theorem stMem1 (B : Nat) (ms : List Int) : Stable [] (FMem1 B ms) := fun v w w' ⟨dv, e, h⟩ hc => ⟨dv, e, stNw intR_fits B ms dv w w' h hc⟩
def FAtm2 (B : Nat) (ms hs : List Int) : Fact := fun v w => ∃ dv ev, v = .agg #[dv, ev] ∧ FNw B 1 intR ms dv w ∧ FNw B 1 intR hs ev w
theorem stAtm2 (B : Nat) (ms hs : List Int) : Stable [] (FAtm2 B ms hs) := fun v w w' ⟨dv, ev, e, h, g⟩ hc => ⟨dv, ev, e, stNw intR_fits B ms dv w w' h hc, stNw intR_fits B hs ev w w' g hc⟩
theorem FNw.form {α : Type} {k B : Nat} {R : Pr α} {l : List α} {v : Value} {w : World} (h : FNw B k R l v w) : ∃ a n c, v = .slice a n c := by
 obtain ⟨fp, h, _⟩ := h
 exact h.form
theorem own_nw {B B' : Nat} {w : World} {v : Value} {l : List Int} (h : OwnR 1 IntC 3 B' w v l) (hB : B <= B') : FNw B 1 intR l v w := by
 obtain ⟨fp, g1, g2, -, -⟩ := intRow_reads h
 exact ⟨fp, g1, fun b hb => Nat.le_trans hB (g2 b hb)⟩
theorem fin6x {w : World} {b : Nat} {u0 u1 u2 u3 u4 u5 : Value} (x0 x1 x2 x3 x4 x5 : Value)
 (h0 : w.cell? ⟨b, 0, none⟩ = some u0) (h1 : w.cell? ⟨b, 1, none⟩ = some u1) (h2 : w.cell? ⟨b, 2, none⟩ = some u2) (h3 : w.cell? ⟨b, 3, none⟩ = some u3) (h4 : w.cell? ⟨b, 4, none⟩ = some u4) (h5 : w.cell? ⟨b, 5, none⟩ = some u5) :
 (w.setCell ⟨b, 0, none⟩ x0).cell? ⟨b, 0, none⟩ = some x0 ∧ ((w.setCell ⟨b, 0, none⟩ x0).setCell ⟨b, 1, none⟩ x1).cell? ⟨b, 1, none⟩ = some x1 ∧ (((w.setCell ⟨b, 0, none⟩ x0).setCell ⟨b, 1, none⟩ x1).setCell ⟨b, 2, none⟩ x2).cell? ⟨b, 2, none⟩ = some x2 ∧
 ((((w.setCell ⟨b, 0, none⟩ x0).setCell ⟨b, 1, none⟩ x1).setCell ⟨b, 2, none⟩ x2).setCell ⟨b, 3, none⟩ x3).cell? ⟨b, 3, none⟩ = some x3 ∧ (((((w.setCell ⟨b, 0, none⟩ x0).setCell ⟨b, 1, none⟩ x1).setCell ⟨b, 2, none⟩ x2).setCell ⟨b, 3, none⟩ x3).setCell ⟨b, 4, none⟩ x4).cell? ⟨b, 4, none⟩ = some x4 ∧
 ((((((w.setCell ⟨b, 0, none⟩ x0).setCell ⟨b, 1, none⟩ x1).setCell ⟨b, 2, none⟩ x2).setCell ⟨b, 3, none⟩ x3).setCell ⟨b, 4, none⟩ x4).setCell ⟨b, 5, none⟩ x5).cell? ⟨b, 5, none⟩ = some x5 ∧ Chg [b] w ((((((w.setCell ⟨b, 0, none⟩ x0).setCell ⟨b, 1, none⟩ x1).setCell ⟨b, 2, none⟩ x2).setCell ⟨b, 3, none⟩ x3).setCell ⟨b, 4, none⟩ x4).setCell ⟨b, 5, none⟩ x5) :=
 ⟨setSame _ h0, setSame _ (setOther _ (by decide) h1), setSame _ (setOther _ (by decide) (setOther _ (by decide) h2)), setSame _ (setOther _ (by decide) (setOther _ (by decide) (setOther _ (by decide) h3))), setSame _ (setOther _ (by decide) (setOther _ (by decide) (setOther _ (by decide) (setOther _ (by decide) h4)))),
  setSame _ (setOther _ (by decide) (setOther _ (by decide) (setOther _ (by decide) (setOther _ (by decide) (setOther _ (by decide) h5))))), (((((store_chg _).trans' (store_chg _)).trans' (store_chg _)).trans' (store_chg _)).trans' (store_chg _)).trans' (store_chg _)⟩
set_option maxRecDepth 100000 in
set_option maxHeartbeats 3200000 in
theorem l4Copy_b (ms hs : List Int) (v0 v1 : Value) (f0 f1 : List Nat) (h0 : ms.length <= 1000) (h1 : hs.length <= 1000) (w : World) (g0 : SlR 1 intR w ms v0 f0) (g1 : SlR 1 intR w hs v1 f1) :
 Calls Try.prog 134 #[.agg #[v0, v1]] w fun e w' => ∃ dv ev, e = .returned (.agg #[dv, ev]) ∧ FNw w.heap.size 1 intR ms dv w' ∧ FNw w.heap.size 1 intR hs ev w' ∧ Below w.heap.size w w' := by
 obtain ⟨a0, n0, c0, rfl⟩ := g0.form
 obtain ⟨a1, n1, c1, rfl⟩ := g1.form
 obtain ⟨i0, hi, hz0, hz1, hz2⟩ := info_parts infoInt
 have hn1 : hs.length = n1 := by
  have h' := g1
  obtain ⟨_, _, _, e, h2, _⟩ := h'
  cases e; exact h2
 obtain ⟨w0, hw0⟩ : ∃ z, z = (w.alloc (.cells #[.slice a0 n0 c0, .slice a1 n1 c1] 68)).alloc (.cells #[.slice none 0 0, .slice none 0 0] 68) := ⟨_, rfl⟩
 have b0 : Below w.heap.size w w0 := by rw [hw0]; exact (below_alloc _ _).trans ((below_alloc _ _).mono (by simp))
 have X0 : w0.cell? ⟨w.heap.size, 0, none⟩ = some (.slice a0 n0 c0) := by rw [hw0]; exact alloc2_old _ _ _ _ _ 0 rfl
 have X1 : w0.cell? ⟨w.heap.size, 1, none⟩ = some (.slice a1 n1 c1) := by rw [hw0]; exact alloc2_old _ _ _ _ _ 1 rfl
 have r0 : RoomAt (w.heap.size + 1) 2 w0 := by rw [hw0]; exact room_alloc (by simp) (by simp)
 have G0 := Lib.hid (SlR.below intR_fits g0 b0)
 have G1 := Lib.hid (SlR.below intR_fits g1 b0)
 have B := Lib.hid b0
 have R := Lib.hid r0
 have HM := Lib.hid h0
 clear g0 g1 b0 r0 h0
 go_enter Try.func134, Try.ntmps134
 go_upto_region 1 with fail
 rw [<- hw0]
 clear hw0
 have hst : ∀ F, F ∈ [FEq (.pointer (some ⟨w.heap.size, 0, none⟩)), FEq (.agg #[.slice a0 n0 c0]), FMem1 w0.heap.size ms, FLit 1 IntC 3 w0.heap.size, FEq (.pointer (some ⟨w.heap.size, 1, none⟩)), FEq (.slice a1 n1 c1), FOwn 1 IntC 3 w0.heap.size hs, FAtm2 w0.heap.size ms hs] -> Stable [] F := by
  simp only [List.forall_mem_cons]
  exact ⟨stEq _ _, stEq _ _, stMem1 _ _, stLit _ _ _ _, stEq _ _, stEq _ _, stOwn _ _ _ _ _, stAtm2 _ _ _, fun _ h => by simp at h⟩
 refine wp_region_tail (by kernel_rfl) (fun i => (tbl4Copy1 : List (List Nat)).getD i []) (facts [FEq (.pointer (some ⟨w.heap.size, 0, none⟩)), FEq (.agg #[.slice a0 n0 c0]), FMem1 w0.heap.size ms, FLit 1 IntC 3 w0.heap.size, FEq (.pointer (some ⟨w.heap.size, 1, none⟩)), FEq (.slice a1 n1 c1), FOwn 1 IntC 3 w0.heap.size hs, FAtm2 w0.heap.size ms hs]) (fun m w' => Below w0.heap.size w0 w') 11 9 8 [some 3, some 4, some 5, some 6, some 7, some 8, some 9, some 10] _ rfl rfl (by decide) rfl rfl (by kernel_rfl) (by kernel_rfl) [] (by kernel_rfl) (fun g b hm v w h => by simp at hm) ?h0 (all_lt (n := 8) ?hop) ?hend
 case h0 => exact (Below.refl _ _).drew
 case hop =>
  refine ⟨⟨⟨⟨⟨⟨⟨⟨trivial, ?_⟩, ?_⟩, ?_⟩, ?_⟩, ?_⟩, ?_⟩, ?_⟩, ?_⟩
  · refine Owes.q 11 (fun u => [(1, .pointer (some ⟨w.heap.size, 0, none⟩))]) fun u w' hI hR => ?_; dsimp only [frm, List.foldl, List.replicate, List.set]; clear hI hst hR; go_wp2; exact ⟨rfl, _, rfl, rfl, rfl⟩
  · refine Owes.q 11 (fun u => [(3, u 0)]) fun u w' hI hR => ?_; dsimp only [frm, List.foldl, List.replicate, List.set]; obtain ⟨_, hI⟩ := hI; have k0 := keep_cell hI X0; have k1 := keep_cell hI X1; have e0 : u 0 = _ := hR 0 (by decide); rw [e0]; clear hI hst hR; go_wp2; exact ⟨rfl, _, rfl, rfl, rfl⟩
  · refine Owes.mk _ rfl rfl (fun _ _ h => by cases h) fun u m w' hm hI hR => ⟨⟨(frm 11 [(4, u 1)]).toArray, []⟩, rfl, fun d hd => by cases hd; exact frm_lt (by decide), ?_⟩
    dsimp only [frm, List.foldl, List.replicate, List.set]
    have e1 : u 1 = _ := hR 1 (by decide)
    have k0 := keep_cell hI X0
    have k1 := keep_cell hI X1
    rw [e1]
    clear e1
    have GG := Lib.hid (SlR.below intR_fits G0.out hI)
    have HI := Lib.hid hI
    clear hI hR
    go_wp2_with fail
    refine (l2Copy_b ms _ f0 HM.out _ GG.out).mono ?_
    rintro e w7 ⟨v7, f7, rfl, s7, n7, b7⟩
    have HX : Hid (FNw w0.heap.size 1 intR ms v7 w7) := Lib.hid ⟨f7, s7, fun b hb => Nat.le_trans HI.out.size (n7.lo b hb)⟩
    have HS7 := Lib.hid (facts_stable hst (b7.chg []))
    have HI7 := Lib.hid (HI.out.trans (b7.mono HI.out.size))
    clear b7 hst s7 n7
    go_wp2
    exact ⟨rfl, _, rfl, ⟨_, rfl, HX.out⟩, HI7.out, HS7.out⟩
  · refine Owes.mk _ rfl rfl (fun _ _ h => by cases h) fun u m w' hm hI hR => ⟨⟨(frm 11 []).toArray, []⟩, rfl, fun d hd => by cases hd; exact frm_lt (by decide), ?_⟩
    dsimp only [frm, List.foldl, List.replicate, List.set]
    have k0 := keep_cell hI X0
    have k1 := keep_cell hI X1
    have HI := Lib.hid hI
    have HS := Lib.hid (facts_stable hst ((below_alloc w' (.cells #[] 3)).chg []))
    clear hI hst hR
    go_wp2
    exact ⟨rfl, _, rfl, ⟨_, rfl, OwnR.lit w' #[] 0 [] IntC_len rfl rfl HI.out.size (Nat.zero_le _)⟩, HI.out.trans ((below_alloc _ _).mono HI.out.size), HS.out⟩
  · refine Owes.q 11 (fun u => [(1, .pointer (some ⟨w.heap.size, 0, none⟩))]) fun u w' hI hR => ?_; dsimp only [frm, List.foldl, List.replicate, List.set]; clear hI hst hR; go_wp2; exact ⟨rfl, _, rfl, rfl, rfl⟩
  · refine Owes.q 11 (fun u => [(7, u 4)]) fun u w' hI hR => ?_; dsimp only [frm, List.foldl, List.replicate, List.set]; obtain ⟨_, hI⟩ := hI; have k1 := keep_cell hI X1; have e4 : u 4 = _ := hR 4 (by decide); rw [e4]; clear hI hst hR; go_wp2; exact ⟨rfl, _, rfl, rfl, rfl⟩
  · refine Owes.mk _ rfl rfl (fun _ _ h => by cases h) fun u m w' hm hI hR => ⟨⟨(frm 11 [(6, u 3), (8, u 5)]).toArray, []⟩, rfl, fun d hd => by cases hd; exact frm_lt (by decide), ?_⟩
    dsimp only [frm, List.foldl, List.replicate, List.set]
    have e5 : u 5 = _ := hR 5 (by decide)
    have k0 := keep_cell hI X0
    have k1 := keep_cell hI X1
    rw [e5]
    clear e5
    obtain ⟨q, e3, o3⟩ := hR 3 (by decide)
    rw [e3] at o3
    rw [e3]
    have gg : SlR 1 (flatR IntC) w' hs (.slice a1 n1 c1) _ := SlR.below intR_fits G1.out hI
    refine wpList_append_lit (K := 1) (c := IntC) (news := hs) rfl _ _ 24 3 i0 (.int .i64 0) 8 IntC_len rfl Try.underlying24 hi hz0 hz1 hz2 rfl (by decide) (by decide) rfl rfl o3 gg hI.size (by have := gg; obtain ⟨_, _, _, e, h, _⟩ := this; simp only [Value.slice.injEq] at e; omega) ?_
    intro v' w2 ho hb
    exact ⟨rfl, _, rfl, ho, hI.trans (hb.mono hI.size), facts_stable hst (hb.chg [])⟩
  · refine Owes.mk _ rfl rfl (fun _ _ h => by cases h) fun u m w' hm hI hR => ⟨⟨(frm 11 [(5, u 2), (9, u 6)]).toArray, []⟩, rfl, fun d hd => by cases hd; exact frm_lt (by decide), ?_⟩
    dsimp only [frm, List.foldl, List.replicate, List.set]
    have k0 := keep_cell hI X0
    have k1 := keep_cell hI X1
    obtain ⟨dv, e2, h2⟩ := hR 2 (by decide)
    have o6 : OwnR 1 IntC 3 w0.heap.size w' (u 6) hs := hR 6 (by decide)
    have h6 := own_nw o6 (Nat.le_refl _)
    obtain ⟨_, _, _, rfl⟩ := h2.form
    obtain ⟨q6, m6, k6, e6⟩ := h6.form
    rw [e6] at h6
    rw [e2, e6]
    have H2 := Lib.hid h2
    have H6 := Lib.hid h6
    have HI := Lib.hid hI
    clear hI hst hR e2 e6 h2 h6 o6
    go_wp2
    exact ⟨rfl, _, rfl, ⟨_, _, rfl, H2.out, H6.out⟩, HI.out, fun _ _ h => h⟩
 case hend =>
  intro u w' hI hR
  simp only [setAll, List.set_cons_zero, List.set_cons_succ]
  obtain ⟨dv, ev, e7, h2, h6⟩ := hR 7 (by decide)
  obtain ⟨xa, xn, xc, rfl⟩ := h2.form
  obtain ⟨ya, yn, yc, rfl⟩ := h6.form
  rw [e7]
  obtain ⟨hrs, hr, hrf⟩ := R.out.below hI
  obtain ⟨u0, r0⟩ := hr 0 (by omega)
  obtain ⟨u1, r1⟩ := hr 1 (by omega)
  have q0 := hrf 0
  have q1 := hrf 1
  have H2 := Lib.hid h2
  have H6 := Lib.hid h6
  have HBw := Lib.hid (B.out.trans (hI.mono B.out.size))
  have HZ := Lib.hid R.out.1
  clear hR hst e7 h2 h6 hI hr hrf X0 X1
  go_wp2
  have hc : Chg [w.heap.size + 1] w' ((w'.setCell ⟨w.heap.size + 1, 0, none⟩ (.slice xa xn xc)).setCell ⟨w.heap.size + 1, 1, none⟩ (.slice ya yn yc)) := (store_chg _).trans' (store_chg _)
  have hz := HZ.out
  obtain ⟨fx, gx, nx⟩ := H2.out
  obtain ⟨fy, gy, ny⟩ := H6.out
  exact bodyPost_ret (v := .agg #[.slice xa xn xc, .slice ya yn yc]) (by simp [results, Try.results134, go_sem, put2a_0 _ _ r0, put2a_1 _ _ r1]) rfl ⟨_, _, rfl, ⟨fx, gx.chg intR_fits hc (fun c hc' e => by have := nx c hc'; simp at e; omega), fun c hc' => by have := nx c hc'; omega⟩, ⟨fy, gy.chg intR_fits hc (fun c hc' e => by have := ny c hc'; simp at e; omega), fun c hc' => by have := ny c hc'; omega⟩, ((HBw.out.chg [w.heap.size + 1]).trans' hc).home (fun b hb => by simp at hb; omega)⟩
def CopyPost (B : Nat) (w0 : World) (ms hs qs : List Int) (lx ly lz : List Job) (e : Ending) (w : World) : Prop := ∃ v0 v1 v2 v3 v4 v5, e = .returned (.agg #[v0, v1, v2, v3, v4, v5]) ∧ FNw B 1 intR ms v0 w ∧ FNw B 1 intR hs v1 w ∧ FNw B 1 intR qs v2 w ∧ FNw B 5 jobR lx v3 w ∧ FNw B 5 jobR ly v4 w ∧ FNw B 5 jobR lz v5 w ∧ Below w0.heap.size w0 w
set_option maxRecDepth 100000 in
set_option maxHeartbeats 6400000 in
theorem l5Copy_b (ms hs qs : List Int) (lx ly lz : List Job) (v0 v1 v2 v3 v4 v5 : Value) (f0 f1 f2 f3 f4 f5 : List Nat) (h0 : ms.length <= 1000) (h1 : hs.length <= 1000) (h2 : qs.length <= 1000) (h3 : lx.length <= 1000) (h4 : ly.length <= 1000) (h5 : lz.length <= 1000) (k3 : ∀ j, j ∈ lx -> j.rsp.data.length <= 4) (k4 : ∀ j, j ∈ ly -> j.rsp.data.length <= 4) (k5 : ∀ j, j ∈ lz -> j.rsp.data.length <= 4) (w : World)
 (g0 : SlR 1 intR w ms v0 f0) (g1 : SlR 1 intR w hs v1 f1) (g2 : SlR 1 intR w qs v2 f2) (g3 : SlR 5 jobR w lx v3 f3) (g4 : SlR 5 jobR w ly v4 f4) (g5 : SlR 5 jobR w lz v5 f5) :
 Calls Try.prog 113 #[.agg #[v0, v1, v2, v3, v4, v5]] w (CopyPost w.heap.size w ms hs qs lx ly lz) := by
 obtain ⟨a0, n0, c0, rfl⟩ := g0.form
 obtain ⟨a1, n1, c1, rfl⟩ := g1.form
 obtain ⟨a2, n2, c2, rfl⟩ := g2.form
 obtain ⟨a3, n3, c3, rfl⟩ := g3.form
 obtain ⟨a4, n4, c4, rfl⟩ := g4.form
 obtain ⟨a5, n5, c5, rfl⟩ := g5.form
 obtain ⟨i0, hi, hz0, hz1, hz2⟩ := info_parts infoInt
 have hn1 : qs.length = n2 := by
  have h' := g2
  obtain ⟨_, _, _, e, h2, _⟩ := h'
  cases e; exact h2
 obtain ⟨w0, hw0⟩ : ∃ z, z = (w.alloc (.cells #[.slice a0 n0 c0, .slice a1 n1 c1, .slice a2 n2 c2, .slice a3 n3 c3, .slice a4 n4 c4, .slice a5 n5 c5] 70)).alloc (.cells #[.slice none 0 0, .slice none 0 0, .slice none 0 0, .slice none 0 0, .slice none 0 0, .slice none 0 0] 70) := ⟨_, rfl⟩
 have b0 : Below w.heap.size w w0 := by rw [hw0]; exact (below_alloc _ _).trans ((below_alloc _ _).mono (by simp))
 have X0 : w0.cell? ⟨w.heap.size, 0, none⟩ = some (.slice a0 n0 c0) := by rw [hw0]; exact alloc2_old _ _ _ _ _ 0 rfl
 have X1 : w0.cell? ⟨w.heap.size, 1, none⟩ = some (.slice a1 n1 c1) := by rw [hw0]; exact alloc2_old _ _ _ _ _ 1 rfl
 have X2 : w0.cell? ⟨w.heap.size, 2, none⟩ = some (.slice a2 n2 c2) := by rw [hw0]; exact alloc2_old _ _ _ _ _ 2 rfl
 have X3 : w0.cell? ⟨w.heap.size, 3, none⟩ = some (.slice a3 n3 c3) := by rw [hw0]; exact alloc2_old _ _ _ _ _ 3 rfl
 have X4 : w0.cell? ⟨w.heap.size, 4, none⟩ = some (.slice a4 n4 c4) := by rw [hw0]; exact alloc2_old _ _ _ _ _ 4 rfl
 have X5 : w0.cell? ⟨w.heap.size, 5, none⟩ = some (.slice a5 n5 c5) := by rw [hw0]; exact alloc2_old _ _ _ _ _ 5 rfl
 have r0 : RoomAt (w.heap.size + 1) 6 w0 := by rw [hw0]; exact room_alloc (by simp) (by simp)
 have G0 := Lib.hid (SlR.below intR_fits g0 b0)
 have G9 := Lib.hid (SlR.below intR_fits g1 b0)
 have G1 := Lib.hid (SlR.below intR_fits g2 b0)
 have G3 := Lib.hid (SlR.below jobR_fits g3 b0)
 have G4 := Lib.hid (SlR.below jobR_fits g4 b0)
 have G5 := Lib.hid (SlR.below jobR_fits g5 b0)
 have B := Lib.hid b0
 have R := Lib.hid r0
 have HM := Lib.hid h0
 have HH := Lib.hid h1
 have HL3 : Hid (lx.length <= 1048576) := Lib.hid (by omega)
 have HL4 : Hid (ly.length <= 1048576) := Lib.hid (by omega)
 have HL5 : Hid (lz.length <= 1048576) := Lib.hid (by omega)
 have HK3 := Lib.hid k3
 have HK4 := Lib.hid k4
 have HK5 := Lib.hid k5
 clear g0 g1 g2 g3 g4 g5 b0 r0 h0 h1 h3 h4 h5 k3 k4 k5
 go_enter Try.func113, Try.ntmps113
 go_upto_region 1 with fail
 rw [<- hw0]
 clear hw0
 have hst : ∀ F, F ∈ [FEq (.pointer (some ⟨w.heap.size, 0, none⟩)), FEq (.agg #[.slice a0 n0 c0, .slice a1 n1 c1]), FAtm2 w0.heap.size ms hs, FLit 1 IntC 3 w0.heap.size, FEq (.pointer (some ⟨w.heap.size, 2, none⟩)), FEq (.slice a2 n2 c2), FOwn 1 IntC 3 w0.heap.size qs, FEq (.pointer (some ⟨w.heap.size, 3, none⟩)), FEq (.slice a3 n3 c3), FNw w0.heap.size 5 jobR lx, FEq (.pointer (some ⟨w.heap.size, 4, none⟩)), FEq (.slice a4 n4 c4), FNw w0.heap.size 5 jobR ly, FEq (.pointer (some ⟨w.heap.size, 5, none⟩)), FEq (.slice a5 n5 c5), FNw w0.heap.size 5 jobR lz] -> Stable [] F := by
  simp only [List.forall_mem_cons]
  exact ⟨stEq _ _, stEq _ _, stAtm2 _ _ _, stLit _ _ _ _, stEq _ _, stEq _ _, stOwn _ _ _ _ _, stEq _ _, stEq _ _, stNw jobR_fits _ _, stEq _ _, stEq _ _, stNw jobR_fits _ _, stEq _ _, stEq _ _, stNw jobR_fits _ _, fun _ h => by simp at h⟩
 refine wp_region_tail (by kernel_rfl) (fun i => (tbl5Copy1 : List (List Nat)).getD i []) (facts [FEq (.pointer (some ⟨w.heap.size, 0, none⟩)), FEq (.agg #[.slice a0 n0 c0, .slice a1 n1 c1]), FAtm2 w0.heap.size ms hs, FLit 1 IntC 3 w0.heap.size, FEq (.pointer (some ⟨w.heap.size, 2, none⟩)), FEq (.slice a2 n2 c2), FOwn 1 IntC 3 w0.heap.size qs, FEq (.pointer (some ⟨w.heap.size, 3, none⟩)), FEq (.slice a3 n3 c3), FNw w0.heap.size 5 jobR lx, FEq (.pointer (some ⟨w.heap.size, 4, none⟩)), FEq (.slice a4 n4 c4), FNw w0.heap.size 5 jobR ly, FEq (.pointer (some ⟨w.heap.size, 5, none⟩)), FEq (.slice a5 n5 c5), FNw w0.heap.size 5 jobR lz]) (fun m w' => Below w0.heap.size w0 w') 20 18 16 [some 3, some 4, some 5, some 6, some 7, some 8, some 9, some 10, some 11, some 12, some 13, some 14, some 15, some 16, some 17, some 18] _ rfl rfl (by decide) rfl rfl (by kernel_rfl) (by kernel_rfl) [] (by kernel_rfl) (fun g b hm v w h => by simp at hm) ?h0 (all_lt (n := 16) ?hop) ?hend
 case h0 => exact (Below.refl _ _).drew
 case hop =>
  refine ⟨⟨⟨⟨⟨⟨⟨⟨⟨⟨⟨⟨⟨⟨⟨⟨trivial, ?_⟩, ?_⟩, ?_⟩, ?_⟩, ?_⟩, ?_⟩, ?_⟩, ?_⟩, ?_⟩, ?_⟩, ?_⟩, ?_⟩, ?_⟩, ?_⟩, ?_⟩, ?_⟩
  · refine Owes.q 20 (fun u => [(1, .pointer (some ⟨w.heap.size, 0, none⟩))]) fun u w' hI hR => ?_; dsimp only [frm, List.foldl, List.replicate, List.set]; clear hI hst hR; go_wp2; exact ⟨rfl, _, rfl, rfl, rfl⟩
  · refine Owes.q 20 (fun u => [(3, u 0)]) fun u w' hI hR => ?_; dsimp only [frm, List.foldl, List.replicate, List.set]; obtain ⟨_, hI⟩ := hI; have k0 := keep_cell hI X0; have k1 := keep_cell hI X1; have e0 : u 0 = _ := hR 0 (by decide); rw [e0]; clear hI hst hR; go_wp2; exact ⟨rfl, _, rfl, rfl, rfl⟩
  · refine Owes.mk _ rfl rfl (fun _ _ h => by cases h) fun u m w' hm hI hR => ⟨⟨(frm 20 [(4, u 1)]).toArray, []⟩, rfl, fun d hd => by cases hd; exact frm_lt (by decide), ?_⟩
    dsimp only [frm, List.foldl, List.replicate, List.set]
    have e1 : u 1 = _ := hR 1 (by decide)
    have k0 := keep_cell hI X0
    have k1 := keep_cell hI X1
    have k2 := keep_cell hI X2
    have k3 := keep_cell hI X3
    have k4 := keep_cell hI X4
    have k5 := keep_cell hI X5
    rw [e1]
    clear e1
    have GG := Lib.hid (SlR.below intR_fits G0.out hI)
    have GH := Lib.hid (SlR.below intR_fits G9.out hI)
    have HI := Lib.hid hI
    clear hI hR
    go_wp2_with fail
    refine (l4Copy_b ms hs _ _ f0 f1 HM.out HH.out _ GG.out GH.out).mono ?_
    rintro e w7 ⟨dv, ev, rfl, h7, k7, b7⟩
    have HX : Hid (FNw w0.heap.size 1 intR ms dv w7) := Lib.hid (h7.imp fun f h => ⟨h.1, fun b hb => Nat.le_trans HI.out.size (h.2 b hb)⟩)
    have HY : Hid (FNw w0.heap.size 1 intR hs ev w7) := Lib.hid (k7.imp fun f h => ⟨h.1, fun b hb => Nat.le_trans HI.out.size (h.2 b hb)⟩)
    have HS7 := Lib.hid (facts_stable hst (b7.chg []))
    have HI7 := Lib.hid (HI.out.trans (b7.mono HI.out.size))
    clear b7 hst h7 k7
    go_wp2
    exact ⟨rfl, _, rfl, ⟨_, _, rfl, HX.out, HY.out⟩, HI7.out, HS7.out⟩
  · refine Owes.mk _ rfl rfl (fun _ _ h => by cases h) fun u m w' hm hI hR => ⟨⟨(frm 20 []).toArray, []⟩, rfl, fun d hd => by cases hd; exact frm_lt (by decide), ?_⟩
    dsimp only [frm, List.foldl, List.replicate, List.set]
    have k0 := keep_cell hI X0
    have k1 := keep_cell hI X1
    have k2 := keep_cell hI X2
    have k3 := keep_cell hI X3
    have k4 := keep_cell hI X4
    have k5 := keep_cell hI X5
    have HI := Lib.hid hI
    have HS := Lib.hid (facts_stable hst ((below_alloc w' (.cells #[] 3)).chg []))
    clear hI hst hR
    go_wp2
    exact ⟨rfl, _, rfl, ⟨_, rfl, OwnR.lit w' #[] 0 [] IntC_len rfl rfl HI.out.size (Nat.zero_le _)⟩, HI.out.trans ((below_alloc _ _).mono HI.out.size), HS.out⟩
  · refine Owes.q 20 (fun u => [(1, .pointer (some ⟨w.heap.size, 0, none⟩))]) fun u w' hI hR => ?_; dsimp only [frm, List.foldl, List.replicate, List.set]; clear hI hst hR; go_wp2; exact ⟨rfl, _, rfl, rfl, rfl⟩
  · refine Owes.q 20 (fun u => [(7, u 4)]) fun u w' hI hR => ?_; dsimp only [frm, List.foldl, List.replicate, List.set]; obtain ⟨_, hI⟩ := hI; have k2 := keep_cell hI X2; have e4 : u 4 = _ := hR 4 (by decide); rw [e4]; clear hI hst hR; go_wp2; exact ⟨rfl, _, rfl, rfl, rfl⟩
  · refine Owes.mk _ rfl rfl (fun _ _ h => by cases h) fun u m w' hm hI hR => ⟨⟨(frm 20 [(6, u 3), (8, u 5)]).toArray, []⟩, rfl, fun d hd => by cases hd; exact frm_lt (by decide), ?_⟩
    dsimp only [frm, List.foldl, List.replicate, List.set]
    have e5 : u 5 = _ := hR 5 (by decide)
    have k0 := keep_cell hI X0
    have k1 := keep_cell hI X1
    have k2 := keep_cell hI X2
    have k3 := keep_cell hI X3
    have k4 := keep_cell hI X4
    have k5 := keep_cell hI X5
    rw [e5]
    clear e5
    obtain ⟨q, e3, o3⟩ := hR 3 (by decide)
    rw [e3] at o3
    rw [e3]
    have gg : SlR 1 (flatR IntC) w' qs (.slice a2 n2 c2) _ := SlR.below intR_fits G1.out hI
    refine wpList_append_lit (K := 1) (c := IntC) (news := qs) rfl _ _ 24 3 i0 (.int .i64 0) 8 IntC_len rfl Try.underlying24 hi hz0 hz1 hz2 rfl (by decide) (by decide) rfl rfl o3 gg hI.size (by have := gg; obtain ⟨_, _, _, e, h, _⟩ := this; simp only [Value.slice.injEq] at e; omega) ?_
    intro v' w2 ho hb
    exact ⟨rfl, _, rfl, ho, hI.trans (hb.mono hI.size), facts_stable hst (hb.chg [])⟩
  · refine Owes.q 20 (fun u => [(1, .pointer (some ⟨w.heap.size, 0, none⟩))]) fun u w' hI hR => ?_; dsimp only [frm, List.foldl, List.replicate, List.set]; clear hI hst hR; go_wp2; exact ⟨rfl, _, rfl, rfl, rfl⟩
  · refine Owes.q 20 (fun u => [(10, u 7)]) fun u w' hI hR => ?_; dsimp only [frm, List.foldl, List.replicate, List.set]; obtain ⟨_, hI⟩ := hI; have k3 := keep_cell hI X3; have e7 : u 7 = _ := hR 7 (by decide); rw [e7]; clear hI hst hR; go_wp2; exact ⟨rfl, _, rfl, rfl, rfl⟩
  · refine Owes.mk _ rfl rfl (fun _ _ h => by cases h) fun u m w' hm hI hR => ⟨⟨(frm 20 [(11, u 8)]).toArray, []⟩, rfl, fun d hd => by cases hd; exact frm_lt (by decide), ?_⟩
    dsimp only [frm, List.foldl, List.replicate, List.set]
    have e8 : u 8 = _ := hR 8 (by decide)
    have k0 := keep_cell hI X0
    have k1 := keep_cell hI X1
    have k2 := keep_cell hI X2
    have k3 := keep_cell hI X3
    have k4 := keep_cell hI X4
    have k5 := keep_cell hI X5
    rw [e8]
    clear e8
    have GG := Lib.hid (SlR.below jobR_fits G3.out hI)
    have HI := Lib.hid hI
    clear hI hR
    go_wp2_with fail
    refine (l5List_b _ lx f3 HL3.out HK3.out _ GG.out).mono ?_
    rintro e w7 ⟨v7, f7, rfl, s7, n7, b7⟩
    have HX : Hid (FNw w0.heap.size 5 jobR lx v7 w7) := Lib.hid ⟨f7, s7, fun b hb => Nat.le_trans HI.out.size (n7.lo b hb)⟩
    have HS7 := Lib.hid (facts_stable hst (b7.chg []))
    have HI7 := Lib.hid (HI.out.trans (b7.mono HI.out.size))
    clear b7 hst s7 n7
    go_wp2
    exact ⟨rfl, _, rfl, HX.out, HI7.out, HS7.out⟩
  · refine Owes.q 20 (fun u => [(1, .pointer (some ⟨w.heap.size, 0, none⟩))]) fun u w' hI hR => ?_; dsimp only [frm, List.foldl, List.replicate, List.set]; clear hI hst hR; go_wp2; exact ⟨rfl, _, rfl, rfl, rfl⟩
  · refine Owes.q 20 (fun u => [(13, u 10)]) fun u w' hI hR => ?_; dsimp only [frm, List.foldl, List.replicate, List.set]; obtain ⟨_, hI⟩ := hI; have k4 := keep_cell hI X4; have e10 : u 10 = _ := hR 10 (by decide); rw [e10]; clear hI hst hR; go_wp2; exact ⟨rfl, _, rfl, rfl, rfl⟩
  · refine Owes.mk _ rfl rfl (fun _ _ h => by cases h) fun u m w' hm hI hR => ⟨⟨(frm 20 [(14, u 11)]).toArray, []⟩, rfl, fun d hd => by cases hd; exact frm_lt (by decide), ?_⟩
    dsimp only [frm, List.foldl, List.replicate, List.set]
    have e11 : u 11 = _ := hR 11 (by decide)
    have k0 := keep_cell hI X0
    have k1 := keep_cell hI X1
    have k2 := keep_cell hI X2
    have k3 := keep_cell hI X3
    have k4 := keep_cell hI X4
    have k5 := keep_cell hI X5
    rw [e11]
    clear e11
    have GG := Lib.hid (SlR.below jobR_fits G4.out hI)
    have HI := Lib.hid hI
    clear hI hR
    go_wp2_with fail
    refine (l5List_b _ ly f4 HL4.out HK4.out _ GG.out).mono ?_
    rintro e w7 ⟨v7, f7, rfl, s7, n7, b7⟩
    have HX : Hid (FNw w0.heap.size 5 jobR ly v7 w7) := Lib.hid ⟨f7, s7, fun b hb => Nat.le_trans HI.out.size (n7.lo b hb)⟩
    have HS7 := Lib.hid (facts_stable hst (b7.chg []))
    have HI7 := Lib.hid (HI.out.trans (b7.mono HI.out.size))
    clear b7 hst s7 n7
    go_wp2
    exact ⟨rfl, _, rfl, HX.out, HI7.out, HS7.out⟩
  · refine Owes.q 20 (fun u => [(1, .pointer (some ⟨w.heap.size, 0, none⟩))]) fun u w' hI hR => ?_; dsimp only [frm, List.foldl, List.replicate, List.set]; clear hI hst hR; go_wp2; exact ⟨rfl, _, rfl, rfl, rfl⟩
  · refine Owes.q 20 (fun u => [(16, u 13)]) fun u w' hI hR => ?_; dsimp only [frm, List.foldl, List.replicate, List.set]; obtain ⟨_, hI⟩ := hI; have k5 := keep_cell hI X5; have e13 : u 13 = _ := hR 13 (by decide); rw [e13]; clear hI hst hR; go_wp2; exact ⟨rfl, _, rfl, rfl, rfl⟩
  · refine Owes.mk _ rfl rfl (fun _ _ h => by cases h) fun u m w' hm hI hR => ⟨⟨(frm 20 [(17, u 14)]).toArray, []⟩, rfl, fun d hd => by cases hd; exact frm_lt (by decide), ?_⟩
    dsimp only [frm, List.foldl, List.replicate, List.set]
    have e14 : u 14 = _ := hR 14 (by decide)
    have k0 := keep_cell hI X0
    have k1 := keep_cell hI X1
    have k2 := keep_cell hI X2
    have k3 := keep_cell hI X3
    have k4 := keep_cell hI X4
    have k5 := keep_cell hI X5
    rw [e14]
    clear e14
    have GG := Lib.hid (SlR.below jobR_fits G5.out hI)
    have HI := Lib.hid hI
    clear hI hR
    go_wp2_with fail
    refine (l5List_b _ lz f5 HL5.out HK5.out _ GG.out).mono ?_
    rintro e w7 ⟨v7, f7, rfl, s7, n7, b7⟩
    have HX : Hid (FNw w0.heap.size 5 jobR lz v7 w7) := Lib.hid ⟨f7, s7, fun b hb => Nat.le_trans HI.out.size (n7.lo b hb)⟩
    have HS7 := Lib.hid (facts_stable hst (b7.chg []))
    have HI7 := Lib.hid (HI.out.trans (b7.mono HI.out.size))
    clear b7 hst s7 n7
    go_wp2
    exact ⟨rfl, _, rfl, HX.out, HI7.out, HS7.out⟩
 case hend =>
  intro u w' hI hR
  simp only [setAll, List.set_cons_zero, List.set_cons_succ]
  obtain ⟨dv, ev, e2, p0, p1⟩ := hR 2 (by decide)
  have o6 : OwnR 1 IntC 3 w0.heap.size w' (u 6) qs := hR 6 (by decide)
  have p2 := own_nw o6 (Nat.le_refl _)
  have p3 : FNw w0.heap.size 5 jobR lx (u 9) w' := hR 9 (by decide)
  have p4 : FNw w0.heap.size 5 jobR ly (u 12) w' := hR 12 (by decide)
  have p5 : FNw w0.heap.size 5 jobR lz (u 15) w' := hR 15 (by decide)
  obtain ⟨xa0, xn0, xc0, rfl⟩ := p0.form
  obtain ⟨xa1, xn1, xc1, rfl⟩ := p1.form
  obtain ⟨xa2, xn2, xc2, e6⟩ := p2.form
  obtain ⟨xa3, xn3, xc3, e9⟩ := p3.form
  obtain ⟨xa4, xn4, xc4, e12⟩ := p4.form
  obtain ⟨xa5, xn5, xc5, e15⟩ := p5.form
  rw [e6] at p2
  rw [e9] at p3
  rw [e12] at p4
  rw [e15] at p5
  rw [e2, e6, e9, e12, e15]
  obtain ⟨hrs, hr, hrf⟩ := R.out.below hI
  obtain ⟨u0, r0⟩ := hr 0 (by omega)
  obtain ⟨u1, r1⟩ := hr 1 (by omega)
  obtain ⟨u2, r2⟩ := hr 2 (by omega)
  obtain ⟨u3, r3⟩ := hr 3 (by omega)
  obtain ⟨u4, r4⟩ := hr 4 (by omega)
  obtain ⟨u5, r5⟩ := hr 5 (by omega)
  have q0 := hrf 0
  have q1 := hrf 1
  have q2 := hrf 2
  have q3 := hrf 3
  have q4 := hrf 4
  have q5 := hrf 5
  have P0 := Lib.hid p0
  have P1 := Lib.hid p1
  have P2 := Lib.hid p2
  have P3 := Lib.hid p3
  have P4 := Lib.hid p4
  have P5 := Lib.hid p5
  have HBw := Lib.hid (B.out.trans (hI.mono B.out.size))
  have HZ := Lib.hid R.out.1
  clear hR hst e2 e6 e9 e12 e15 p0 p1 p2 p3 p4 p5 o6 hI hr hrf X0 X1 X2 X3 X4 X5
  go_wp2
  obtain ⟨t0, t1, t2, t3, t4, t5, hc⟩ := fin6x (.slice xa0 xn0 xc0) (.slice xa1 xn1 xc1) (.slice xa2 xn2 xc2) (.slice xa3 xn3 xc3) (.slice xa4 xn4 xc4) (.slice xa5 xn5 xc5) r0 r1 r2 r3 r4 r5
  have hz := HZ.out
  have mv : ∀ {α : Type} {k : Nat} {R : Pr α} {l : List α} {v : Value}, Fits k R -> FNw w0.heap.size k R l v w' -> FNw w.heap.size k R l v _ := fun F h => h.imp fun f h => ⟨h.1.chg F hc (fun c hc' e => by have := h.2 c hc'; simp at e; omega), fun c hc' => by have := h.2 c hc'; omega⟩
  have hfin : CopyPost w.heap.size w ms hs qs lx ly lz (.returned (.agg #[.slice xa0 xn0 xc0, .slice xa1 xn1 xc1, .slice xa2 xn2 xc2, .slice xa3 xn3 xc3, .slice xa4 xn4 xc4, .slice xa5 xn5 xc5])) _ := ⟨_, _, _, _, _, _, rfl, mv intR_fits P0.out, mv intR_fits P1.out, mv intR_fits P2.out, mv jobR_fits P3.out, mv jobR_fits P4.out, mv jobR_fits P5.out, ((HBw.out.chg [w.heap.size + 1]).trans' hc).home (fun b hb => by simp at hb; omega)⟩
  exact bodyPost_ret (by simp [results, Try.results113, go_sem, t0, t1, t2, t3, t4, t5]) rfl hfin
end Go.Proofs.Ytmcjklicepaiaaa
