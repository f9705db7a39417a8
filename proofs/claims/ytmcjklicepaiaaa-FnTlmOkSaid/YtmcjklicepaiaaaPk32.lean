/-
 Texts of this claim laid together: TC2 BusAt2.
-/
import Derived.Test.YtmcjklicepaiaaaPk31
set_option linter.unusedVariables false
set_option linter.unusedSimpArgs false
namespace Go.Proofs.Ytmcjklicepaiaaa
open Go.RowKit Go.ChangeShapes Go.WideShapes
def FLit0:Fact:=fun v _=>∃ q,v = .slice (some ⟨q,0,none⟩) 0 0
def CopyPostO (B:Nat) (w0:World) (ms hs qs:List Int) (lx ly lz:List Job) (e:Ending) (w:World):Prop:=∃ v0 v1 v2 v3 v4 v5,e = .returned (.agg #[v0,v1,v2,v3,v4,v5])∧FNw B 1 intR ms v0 w∧FNw B 1 intR hs v1 w∧FNw B 1 intR qs v2 w∧FNw B 5 jobR lx v3 w∧FNw B 5 jobR ly v4 w∧FNw B 5 jobR lz v5 w∧Copd B ms hs qs lx ly lz v0 v1 v2 v3 v4 v5 w∧Below w0.heap.size w0 w
set_option maxRecDepth 100000 in
set_option maxHeartbeats 6400000 in
theorem l5Copy_o (ms hs qs:List Int) (lx ly lz:List Job) (v0 v1 v2 v3 v4 v5:Value) (f0 f1 f2 f3 f4 f5:List Nat) (h0:ms.length<=1000) (h1:hs.length<=1000) (h1':0<hs.length) (h2:qs.length<=1000) (h2':0<qs.length) (h3:lx.length<=1000) (h4:ly.length<=1000) (h5:lz.length<=1000) (k3:∀ j,j∈lx->j.rsp.data.length<=4) (k4:∀ j,j∈ly->j.rsp.data.length<=4) (k5:∀ j,j∈lz->j.rsp.data.length<=4) (w:World)
 (g0:SlR 1 intR w ms v0 f0) (g1:SlR 1 intR w hs v1 f1) (g2:SlR 1 intR w qs v2 f2) (g3:SlR 5 jobR w lx v3 f3) (g4:SlR 5 jobR w ly v4 f4) (g5:SlR 5 jobR w lz v5 f5) :
 Calls Try.prog 113 #[.agg #[v0,v1,v2,v3,v4,v5]] w (CopyPostO w.heap.size w ms hs qs lx ly lz):=by
 obtain ⟨a0,n0,c0,rfl⟩:=g0.form;obtain ⟨a1,n1,c1,rfl⟩:=g1.form;obtain ⟨a2,n2,c2,rfl⟩:=g2.form;obtain ⟨a3,n3,c3,rfl⟩:=g3.form;obtain ⟨a4,n4,c4,rfl⟩:=g4.form;obtain ⟨a5,n5,c5,rfl⟩:=g5.form;obtain ⟨i0,hi,hz0,hz1,hz2⟩:=info_parts infoInt;have hn1:qs.length=n2:=by
  have h':=g2;obtain ⟨_,_,_,e,h2,_⟩:=h';cases e;exact h2
 obtain ⟨w0,hw0⟩:∃ z,z=(w.alloc (.cells #[.slice a0 n0 c0,.slice a1 n1 c1,.slice a2 n2 c2,.slice a3 n3 c3,.slice a4 n4 c4,.slice a5 n5 c5] 70)).alloc (.cells #[.slice none 0 0,.slice none 0 0,.slice none 0 0,.slice none 0 0,.slice none 0 0,.slice none 0 0] 70):=⟨_,rfl⟩;have b0:Below w.heap.size w w0:=by rw [hw0];exact (below_alloc _ _).trans ((below_alloc _ _).mono (by simp))
 have X0:w0.cell? ⟨w.heap.size,0,none⟩=some (.slice a0 n0 c0):=by rw [hw0];exact alloc2_old _ _ _ _ _ 0 rfl
 have X1:w0.cell? ⟨w.heap.size,1,none⟩=some (.slice a1 n1 c1):=by rw [hw0];exact alloc2_old _ _ _ _ _ 1 rfl
 have X2:w0.cell? ⟨w.heap.size,2,none⟩=some (.slice a2 n2 c2):=by rw [hw0];exact alloc2_old _ _ _ _ _ 2 rfl
 have X3:w0.cell? ⟨w.heap.size,3,none⟩=some (.slice a3 n3 c3):=by rw [hw0];exact alloc2_old _ _ _ _ _ 3 rfl
 have X4:w0.cell? ⟨w.heap.size,4,none⟩=some (.slice a4 n4 c4):=by rw [hw0];exact alloc2_old _ _ _ _ _ 4 rfl
 have X5:w0.cell? ⟨w.heap.size,5,none⟩=some (.slice a5 n5 c5):=by rw [hw0];exact alloc2_old _ _ _ _ _ 5 rfl
 have r0:RoomAt (w.heap.size+1) 6 w0:=by rw [hw0];exact room_alloc (by simp) (by simp)
 have G0:=Lib.hid (SlR.below intR_fits g0 b0);have G9:=Lib.hid (SlR.below intR_fits g1 b0);have G1:=Lib.hid (SlR.below intR_fits g2 b0);have G3:=Lib.hid (SlR.below jobR_fits g3 b0);have G4:=Lib.hid (SlR.below jobR_fits g4 b0);have G5:=Lib.hid (SlR.below jobR_fits g5 b0);have B:=Lib.hid b0;have R:=Lib.hid r0;have HM:=Lib.hid h0;have HH:=Lib.hid h1;have HH0:=Lib.hid h1';have HL3:Hid (lx.length<=1048576):=Lib.hid (by omega);have HL4:Hid (ly.length<=1048576):=Lib.hid (by omega);have HL5:Hid (lz.length<=1048576):=Lib.hid (by omega);have HK3:=Lib.hid k3;have HK4:=Lib.hid k4;have HK5:=Lib.hid k5;clear g0 g1 g2 g3 g4 g5 b0 r0 h0 h1 h1' h3 h4 h5 k3 k4 k5;go_enter Try.func113,Try.ntmps113
 go_upto_region 1 with fail
 rw [<- hw0];clear hw0;have hk:∀ (wa wb:World) (j_:Nat) (y_:Value),facts [FEq (.pointer (some ⟨w.heap.size,0,none⟩)),FEq (.agg #[.slice a0 n0 c0,.slice a1 n1 c1]),FAny,FLit0,FEq (.pointer (some ⟨w.heap.size,2,none⟩)),FEq (.slice a2 n2 c2),FAny,FEq (.pointer (some ⟨w.heap.size,3,none⟩)),FEq (.slice a3 n3 c3),FAny,FEq (.pointer (some ⟨w.heap.size,4,none⟩)),FEq (.slice a4 n4 c4),FAny,FEq (.pointer (some ⟨w.heap.size,5,none⟩)),FEq (.slice a5 n5 c5),FAny] j_ y_ wa->facts [FEq (.pointer (some ⟨w.heap.size,0,none⟩)),FEq (.agg #[.slice a0 n0 c0,.slice a1 n1 c1]),FAny,FLit0,FEq (.pointer (some ⟨w.heap.size,2,none⟩)),FEq (.slice a2 n2 c2),FAny,FEq (.pointer (some ⟨w.heap.size,3,none⟩)),FEq (.slice a3 n3 c3),FAny,FEq (.pointer (some ⟨w.heap.size,4,none⟩)),FEq (.slice a4 n4 c4),FAny,FEq (.pointer (some ⟨w.heap.size,5,none⟩)),FEq (.slice a5 n5 c5),FAny] j_ y_ wb:=fun wa wb j_ y_ h=>by
  rcases j_ with _|_|_|_|_|_|_|_|_|_|_|_|_|_|_|_|j_<;>exact h
 refine wp_region_tail7 (by kernel_rfl) (fun i=>([[],[0],[0,1],[],[],[4],[0,1,2,3,4,5],[],[7],[0,1,2,3,4,5,6,7,8],[],[10],[0,1,2,3,4,5,6,7,8,9,10,11],[],[13],[0,1,2,3,4,5,6,7,8,9,10,11,12,13,14],[0,1,2,3,4,5,6,7,8,9,10,11,12,13,14,15],[0,1,2,3,4,5,6,7,8,9,10,11,12,13,14,15,16]]:List (List Nat)).getD i []) (facts [FEq (.pointer (some ⟨w.heap.size,0,none⟩)),FEq (.agg #[.slice a0 n0 c0,.slice a1 n1 c1]),FAny,FLit0,FEq (.pointer (some ⟨w.heap.size,2,none⟩)),FEq (.slice a2 n2 c2),FAny,FEq (.pointer (some ⟨w.heap.size,3,none⟩)),FEq (.slice a3 n3 c3),FAny,FEq (.pointer (some ⟨w.heap.size,4,none⟩)),FEq (.slice a4 n4 c4),FAny,FEq (.pointer (some ⟨w.heap.size,5,none⟩)),FEq (.slice a5 n5 c5),FAny]) (fun ls u n_ w'=>PileI w0 (PGood w0.heap.size ms hs qs lx ly lz) [(ls 2,u 2),(ls 6,u 6),(ls 9,u 9),(ls 12,u 12),(ls 15,u 15)] w') 20 18 16 [some 3,some 4,some 5,some 6,some 7,some 8,some 9,some 10,some 11,some 12,some 13,some 14,some 15,some 16,some 17,some 18] _ rfl rfl (by decide) rfl rfl (by kernel_rfl) (by kernel_rfl) [] (by kernel_rfl) (fun g b hm v w h=>by simp at hm) ?h0 (all_lt (n:=16) ?hop) ?hend
 case h0=>exact fun ls u hl=>PileI.start5 (hl 2) (hl 6) (hl 9) (hl 12) (hl 15)
 case hop =>
  refine ⟨⟨⟨⟨⟨⟨⟨⟨⟨⟨⟨⟨⟨⟨⟨⟨trivial,?_⟩,?_⟩,?_⟩,?_⟩,?_⟩,?_⟩,?_⟩,?_⟩,?_⟩,?_⟩,?_⟩,?_⟩,?_⟩,?_⟩,?_⟩,?_⟩
  ·refine Owes7.mk _ rfl rfl (fun _ _ h=>by cases h) fun u n_ w' hm ls hI hli hld hlT hR=>⟨⟨(frm 20 [(1,.pointer (some ⟨w.heap.size,0,none⟩))]).toArray,[]⟩,rfl,fun d hd=>by cases hd;exact frm_lt (by decide),?_⟩;dsimp only [frm,List.foldl,List.replicate,List.set];have HI:=Lib.hid hI;clear hI hR hld hlT;go_wp2;exact ⟨rfl,_,rfl,rfl,HI.out,fun j_ y_ _ _ hx=>hk _ _ j_ y_ hx⟩
  ·refine Owes7.mk _ rfl rfl (fun _ _ h=>by cases h) fun u n_ w' hm ls hI hli hld hlT hR=>⟨⟨(frm 20 [(3,u 0)]).toArray,[]⟩,rfl,fun d hd=>by cases hd;exact frm_lt (by decide),?_⟩;dsimp only [frm,List.foldl,List.replicate,List.set];have z_X0:=keep_cell hI.bel X0;have z_X1:=keep_cell hI.bel X1;have ev0:u 0=_:=hR 0 (by decide);rw [ev0];have HI:=Lib.hid hI;clear hI hR hld hlT ev0;go_wp2;exact ⟨rfl,_,rfl,rfl,HI.out,fun j_ y_ _ _ hx=>hk _ _ j_ y_ hx⟩
  ·refine Owes7.mk _ rfl rfl (fun _ _ h=>by cases h) fun u n_ w' hm ls hI hli hld hlT hR=>⟨⟨(frm 20 [(4,u 1)]).toArray,[]⟩,rfl,fun d hd=>by cases hd;exact frm_lt (by decide),?_⟩;dsimp only [frm,List.foldl,List.replicate,List.set];have ev1:u 1=_:=hR 1 (by decide);rw [ev1];have GG:=Lib.hid (SlR.below intR_fits G0.out hI.bel);have GH:=Lib.hid (SlR.below intR_fits G9.out hI.bel);have HI:=Lib.hid hI;clear hI hR hli hld hlT;go_wp2_with fail
   refine (l4Copy_n ms hs _ _ f0 f1 HM.out HH0.out HH.out _ GG.out GH.out).mono ?_;rintro e w7 ⟨v7,f7,rfl,h7,b7⟩;obtain ⟨a7,a7',m7,c7,m7',c7',fa,fb,rfl,rfl,s0,s1,nw⟩:=h7;have HQ:=Lib.hid (HI.out.put (PGood.keeps _ _ _ _ _ _ _) b7 0 (f:=fa++fb) ⟨a7,m7,c7,a7',m7',c7',fa,fb,rfl,rfl,s0,s1⟩ (fun c hc=>⟨nw.lo c hc,(List.mem_append.1 hc).elim (s0.lt intR_fits c) (s1.lt intR_fits c)⟩));clear b7 s0 s1 nw;go_wp2;exact ⟨rfl,_,rfl,trivial,HQ.out,fun j_ y_ _ _ hx=>hk _ _ j_ y_ hx⟩
  ·refine Owes7.mk _ rfl rfl (fun _ _ h=>by cases h) fun u n_ w' hm ls hI hli hld hlT hR=>⟨⟨(frm 20 []).toArray,[]⟩,rfl,fun d hd=>by cases hd;exact frm_lt (by decide),?_⟩;dsimp only [frm,List.foldl,List.replicate,List.set];have HQ:=Lib.hid (hI.below (PGood.keeps _ _ _ _ _ _ _) (below_alloc w' (.cells #[] 3)));clear hI hR hli hld hlT;go_wp2;exact ⟨rfl,_,rfl,⟨_,rfl⟩,HQ.out,fun j_ y_ _ _ hx=>hk _ _ j_ y_ hx⟩
  ·refine Owes7.mk _ rfl rfl (fun _ _ h=>by cases h) fun u n_ w' hm ls hI hli hld hlT hR=>⟨⟨(frm 20 [(1,.pointer (some ⟨w.heap.size,0,none⟩))]).toArray,[]⟩,rfl,fun d hd=>by cases hd;exact frm_lt (by decide),?_⟩;dsimp only [frm,List.foldl,List.replicate,List.set];have HI:=Lib.hid hI;clear hI hR hld hlT;go_wp2;exact ⟨rfl,_,rfl,rfl,HI.out,fun j_ y_ _ _ hx=>hk _ _ j_ y_ hx⟩
  ·refine Owes7.mk _ rfl rfl (fun _ _ h=>by cases h) fun u n_ w' hm ls hI hli hld hlT hR=>⟨⟨(frm 20 [(7,u 4)]).toArray,[]⟩,rfl,fun d hd=>by cases hd;exact frm_lt (by decide),?_⟩;dsimp only [frm,List.foldl,List.replicate,List.set];have z_X2:=keep_cell hI.bel X2;have ev4:u 4=_:=hR 4 (by decide);rw [ev4];have HI:=Lib.hid hI;clear hI hR hld hlT ev4;go_wp2;exact ⟨rfl,_,rfl,rfl,HI.out,fun j_ y_ _ _ hx=>hk _ _ j_ y_ hx⟩
  ·refine Owes7.mk _ rfl rfl (fun _ _ h=>by cases h) fun u n_ w' hm ls hI hli hld hlT hR=>⟨⟨(frm 20 [(6,u 3),(8,u 5)]).toArray,[]⟩,rfl,fun d hd=>by cases hd;exact frm_lt (by decide),?_⟩;dsimp only [frm,List.foldl,List.replicate,List.set];have ev5:u 5=_:=hR 5 (by decide);rw [ev5];obtain ⟨q,e3⟩:=(hR 3 (by decide):FLit0 _ _);rw [e3];have gg:SlR 1 (flatR IntC) w' qs (.slice a2 n2 c2) _:=SlR.below intR_fits G1.out hI.bel;obtain ⟨B1,O1,rfl⟩:∃ b o,a2=some ⟨b,o,none⟩:=by
    obtain ⟨_,_,_,e,hn,_,_,⟨rfl,rfl⟩|⟨_,_,_,rfl,_⟩⟩:=gg
    ·simp at h2'
    ·cases e;exact ⟨_,_,rfl⟩
   refine wpList_append_empty (K:=1) (c:=IntC) (news:=qs) rfl _ _ 24 3 i0 (.int .i64 0) 8 IntC_len rfl Try.underlying24 hi hz0 hz1 hz2 rfl (by decide) rfl rfl hn1 (by omega) (SlR.flat_cells IntC_len (by decide) gg) (by omega) ?_;intro v' w2 ho hb;obtain ⟨f6,g6,l6,-,fr6⟩:=intRow_reads ho;exact ⟨rfl,_,rfl,trivial,hI.put (PGood.keeps _ _ _ _ _ _ _) hb 1 ⟨g6,fr6⟩ (fun c hc=>⟨l6 c hc,g6.lt intR_fits c hc⟩),fun j_ y_ _ _ hx=>hk _ _ j_ y_ hx⟩
  ·refine Owes7.mk _ rfl rfl (fun _ _ h=>by cases h) fun u n_ w' hm ls hI hli hld hlT hR=>⟨⟨(frm 20 [(1,.pointer (some ⟨w.heap.size,0,none⟩))]).toArray,[]⟩,rfl,fun d hd=>by cases hd;exact frm_lt (by decide),?_⟩;dsimp only [frm,List.foldl,List.replicate,List.set];have HI:=Lib.hid hI;clear hI hR hld hlT;go_wp2;exact ⟨rfl,_,rfl,rfl,HI.out,fun j_ y_ _ _ hx=>hk _ _ j_ y_ hx⟩
  ·refine Owes7.mk _ rfl rfl (fun _ _ h=>by cases h) fun u n_ w' hm ls hI hli hld hlT hR=>⟨⟨(frm 20 [(10,u 7)]).toArray,[]⟩,rfl,fun d hd=>by cases hd;exact frm_lt (by decide),?_⟩;dsimp only [frm,List.foldl,List.replicate,List.set];have z_X3:=keep_cell hI.bel X3;have ev7:u 7=_:=hR 7 (by decide);rw [ev7];have HI:=Lib.hid hI;clear hI hR hld hlT ev7;go_wp2;exact ⟨rfl,_,rfl,rfl,HI.out,fun j_ y_ _ _ hx=>hk _ _ j_ y_ hx⟩
  ·refine Owes7.mk _ rfl rfl (fun _ _ h=>by cases h) fun u n_ w' hm ls hI hli hld hlT hR=>⟨⟨(frm 20 [(11,u 8)]).toArray,[]⟩,rfl,fun d hd=>by cases hd;exact frm_lt (by decide),?_⟩;dsimp only [frm,List.foldl,List.replicate,List.set];have ev8:u 8=_:=hR 8 (by decide);rw [ev8];have GG:=Lib.hid (SlR.below jobR_fits G3.out hI.bel);have HI:=Lib.hid hI;clear hI hR hli hld hlT;go_wp2_with fail
   refine (l5List_o _ lx f3 HL3.out HK3.out _ GG.out).mono ?_;rintro e w7 ⟨v7,rfl,s7,b7⟩;obtain ⟨f7,g7,l7⟩:=PJob.of HI.out.bel.size s7;have HH:=Lib.hid (HI.out.put (PGood.keeps _ _ _ _ _ _ _) b7 2 g7 l7);clear s7 b7 g7 l7;go_wp2;exact ⟨rfl,_,rfl,trivial,HH.out,fun j_ y_ _ _ hx=>hk _ _ j_ y_ hx⟩
  ·refine Owes7.mk _ rfl rfl (fun _ _ h=>by cases h) fun u n_ w' hm ls hI hli hld hlT hR=>⟨⟨(frm 20 [(1,.pointer (some ⟨w.heap.size,0,none⟩))]).toArray,[]⟩,rfl,fun d hd=>by cases hd;exact frm_lt (by decide),?_⟩;dsimp only [frm,List.foldl,List.replicate,List.set];have HI:=Lib.hid hI;clear hI hR hld hlT;go_wp2;exact ⟨rfl,_,rfl,rfl,HI.out,fun j_ y_ _ _ hx=>hk _ _ j_ y_ hx⟩
  ·refine Owes7.mk _ rfl rfl (fun _ _ h=>by cases h) fun u n_ w' hm ls hI hli hld hlT hR=>⟨⟨(frm 20 [(13,u 10)]).toArray,[]⟩,rfl,fun d hd=>by cases hd;exact frm_lt (by decide),?_⟩;dsimp only [frm,List.foldl,List.replicate,List.set];have z_X4:=keep_cell hI.bel X4;have ev10:u 10=_:=hR 10 (by decide);rw [ev10];have HI:=Lib.hid hI;clear hI hR hld hlT ev10;go_wp2;exact ⟨rfl,_,rfl,rfl,HI.out,fun j_ y_ _ _ hx=>hk _ _ j_ y_ hx⟩
  ·refine Owes7.mk _ rfl rfl (fun _ _ h=>by cases h) fun u n_ w' hm ls hI hli hld hlT hR=>⟨⟨(frm 20 [(14,u 11)]).toArray,[]⟩,rfl,fun d hd=>by cases hd;exact frm_lt (by decide),?_⟩;dsimp only [frm,List.foldl,List.replicate,List.set];have ev11:u 11=_:=hR 11 (by decide);rw [ev11];have GG:=Lib.hid (SlR.below jobR_fits G4.out hI.bel);have HI:=Lib.hid hI;clear hI hR hli hld hlT;go_wp2_with fail
   refine (l5List_o _ ly f4 HL4.out HK4.out _ GG.out).mono ?_;rintro e w7 ⟨v7,rfl,s7,b7⟩;obtain ⟨f7,g7,l7⟩:=PJob.of HI.out.bel.size s7;have HH:=Lib.hid (HI.out.put (PGood.keeps _ _ _ _ _ _ _) b7 3 g7 l7);clear s7 b7 g7 l7;go_wp2;exact ⟨rfl,_,rfl,trivial,HH.out,fun j_ y_ _ _ hx=>hk _ _ j_ y_ hx⟩
  ·refine Owes7.mk _ rfl rfl (fun _ _ h=>by cases h) fun u n_ w' hm ls hI hli hld hlT hR=>⟨⟨(frm 20 [(1,.pointer (some ⟨w.heap.size,0,none⟩))]).toArray,[]⟩,rfl,fun d hd=>by cases hd;exact frm_lt (by decide),?_⟩;dsimp only [frm,List.foldl,List.replicate,List.set];have HI:=Lib.hid hI;clear hI hR hld hlT;go_wp2;exact ⟨rfl,_,rfl,rfl,HI.out,fun j_ y_ _ _ hx=>hk _ _ j_ y_ hx⟩
  ·refine Owes7.mk _ rfl rfl (fun _ _ h=>by cases h) fun u n_ w' hm ls hI hli hld hlT hR=>⟨⟨(frm 20 [(16,u 13)]).toArray,[]⟩,rfl,fun d hd=>by cases hd;exact frm_lt (by decide),?_⟩;dsimp only [frm,List.foldl,List.replicate,List.set];have z_X5:=keep_cell hI.bel X5;have ev13:u 13=_:=hR 13 (by decide);rw [ev13];have HI:=Lib.hid hI;clear hI hR hld hlT ev13;go_wp2;exact ⟨rfl,_,rfl,rfl,HI.out,fun j_ y_ _ _ hx=>hk _ _ j_ y_ hx⟩
  ·refine Owes7.mk _ rfl rfl (fun _ _ h=>by cases h) fun u n_ w' hm ls hI hli hld hlT hR=>⟨⟨(frm 20 [(17,u 14)]).toArray,[]⟩,rfl,fun d hd=>by cases hd;exact frm_lt (by decide),?_⟩;dsimp only [frm,List.foldl,List.replicate,List.set];have ev14:u 14=_:=hR 14 (by decide);rw [ev14];have GG:=Lib.hid (SlR.below jobR_fits G5.out hI.bel);have HI:=Lib.hid hI;clear hI hR hli hld hlT;go_wp2_with fail
   refine (l5List_o _ lz f5 HL5.out HK5.out _ GG.out).mono ?_;rintro e w7 ⟨v7,rfl,s7,b7⟩;obtain ⟨f7,g7,l7⟩:=PJob.of HI.out.bel.size s7;have HH:=Lib.hid (HI.out.put (PGood.keeps _ _ _ _ _ _ _) b7 4 g7 l7);clear s7 b7 g7 l7;go_wp2;exact ⟨rfl,_,rfl,trivial,HH.out,fun j_ y_ _ _ hx=>hk _ _ j_ y_ hx⟩
 case hend =>
  intro ls u w' hls hI hR;simp only [setAll,List.set_cons_zero,List.set_cons_succ];have eL:[(ls 2,u 2),(ls 6,u 6),(ls 9,u 9),(ls 12,u 12),(ls 15,u 15)]=[(true,u 2),(true,u 6),(true,u 9),(true,u 12),(true,u 15)]:=by rw [hls 2 (by decide),hls 6 (by decide),hls 9 (by decide),hls 12 (by decide),hls 15 (by decide)]
  have pl:=hI.pl;rw [eL] at pl;have hI:=hI.bel;obtain ⟨p0,p1,p2,p3,p4,p5⟩:(∃ a n c a' n' c',u 2 = .agg #[.slice a n c,.slice a' n' c']∧FNw w0.heap.size 1 intR ms (.slice a n c) w'∧FNw w0.heap.size 1 intR hs (.slice a' n' c') w')∧True∧FNw w0.heap.size 1 intR qs (u 6) w'∧FNw w0.heap.size 5 jobR lx (u 9) w'∧FNw w0.heap.size 5 jobR ly (u 12) w'∧FNw w0.heap.size 5 jobR lz (u 15) w':=by
   obtain ⟨F,hF⟩:=pl;obtain ⟨⟨a,n,c,a',n',c',fa,fb,e,ef,g0,g1⟩,l0⟩:=hF.good 0 _ rfl;obtain ⟨⟨g2,-⟩,l2⟩:=hF.good 1 _ rfl;have jb:∀ {l:List Job} {v:Value} {f:List Nat},PJob w0.heap.size l v f w'->FNw w0.heap.size 5 jobR l v w':=fun h=>by
    obtain ⟨rows,fps,h,-⟩:=h;obtain ⟨fp,g,lo,-⟩:=OwnE.reads jobR_fits ⟨rows,fps,h⟩;exact ⟨fp,g,lo⟩
   exact ⟨⟨a,n,c,a',n',c',e,⟨fa,g0,fun b hb=>(l0 b (by rw [ef];simp [hb])).1⟩,⟨fb,g1,fun b hb=>(l0 b (by rw [ef];simp [hb])).1⟩⟩,trivial,⟨_,g2,fun b hb=>(l2 b hb).1⟩,jb (hF.good 2 _ rfl).1,jb (hF.good 3 _ rfl).1,jb (hF.good 4 _ rfl).1⟩
  obtain ⟨xa0,xn0,xc0,xa1,xn1,xc1,e2,p0,p1⟩:=p0;obtain ⟨xa2,xn2,xc2,e6⟩:=p2.form;obtain ⟨xa3,xn3,xc3,e9⟩:=p3.form;obtain ⟨xa4,xn4,xc4,e12⟩:=p4.form;obtain ⟨xa5,xn5,xc5,e15⟩:=p5.form;rw [e6] at p2;rw [e9] at p3;rw [e12] at p4;rw [e15] at p5;rw [e2,e6,e9,e12,e15] at pl;rw [e2,e6,e9,e12,e15];have PL:=Lib.hid pl;obtain ⟨hrs,hr,hrf⟩:=R.out.below hI;obtain ⟨u0,r0⟩:=hr 0 (by omega);obtain ⟨u1,r1⟩:=hr 1 (by omega);obtain ⟨u2,r2⟩:=hr 2 (by omega);obtain ⟨u3,r3⟩:=hr 3 (by omega);obtain ⟨u4,r4⟩:=hr 4 (by omega);obtain ⟨u5,r5⟩:=hr 5 (by omega);have q0:=hrf 0;have q1:=hrf 1;have q2:=hrf 2;have q3:=hrf 3;have q4:=hrf 4;have q5:=hrf 5;have P0:=Lib.hid p0;have P1:=Lib.hid p1;have P2:=Lib.hid p2;have P3:=Lib.hid p3;have P4:=Lib.hid p4;have P5:=Lib.hid p5;have HBw:=Lib.hid (B.out.trans (hI.mono B.out.size));have HZ:=Lib.hid R.out.1;clear hR hls hk pl eL e2 e6 e9 e12 e15 p0 p1 p2 p3 p4 p5 hI hr hrf X0 X1 X2 X3 X4 X5;go_wp2;obtain ⟨t0,t1,t2,t3,t4,t5,hc⟩:=fin6x (.slice xa0 xn0 xc0) (.slice xa1 xn1 xc1) (.slice xa2 xn2 xc2) (.slice xa3 xn3 xc3) (.slice xa4 xn4 xc4) (.slice xa5 xn5 xc5) r0 r1 r2 r3 r4 r5;have hz:=HZ.out;have mv:∀ {α:Type} {k:Nat} {R:Pr α} {l:List α} {v:Value},Fits k R->FNw w0.heap.size k R l v w'->FNw w.heap.size k R l v _:=fun F h=>h.imp fun f h=>⟨h.1.chg F hc (fun c hc' e=>by have:=h.2 c hc';simp at e;omega),fun c hc'=>by have:=h.2 c hc';omega⟩;have hfin:CopyPostO w.heap.size w ms hs qs lx ly lz (.returned (.agg #[.slice xa0 xn0 xc0,.slice xa1 xn1 xc1,.slice xa2 xn2 xc2,.slice xa3 xn3 xc3,.slice xa4 xn4 xc4,.slice xa5 xn5 xc5])) _:=⟨_,_,_,_,_,_,rfl,mv intR_fits P0.out,mv intR_fits P1.out,mv intR_fits P2.out,mv jobR_fits P3.out,mv jobR_fits P4.out,mv jobR_fits P5.out,⟨w0.heap.size,by omega,PL.out.chg (PGood.keeps _ _ _ _ _ _ _) hc (by simp;omega)⟩,((HBw.out.chg [w.heap.size+1]).trans' hc).home (fun b hb=>by simp at hb;omega)⟩;exact bodyPost_ret (by simp [results,Try.results113,go_sem,t0,t1,t2,t3,t4,t5]) rfl hfin
end Go.Proofs.Ytmcjklicepaiaaa
namespace Go.Proofs.Ytmcjklicepaiaaa
open Go.RowKit Go.WideShapes
variable {L0 fq fm:List Nat} {rb:Nat} {T0 T:Tab} {w w1 w2:World} {M:Int} {lm:List MR} {va la pa:Option Addr} {vn vc ln lc pn pc:Nat} {G G':Gd}
theorem BusPost.weaken {e:Ending} (h:BusPost G L0 rb fq T0 w M e w2 T lm fm va vn vc la ln lc pa pn pc) (hG:∀ x,G.ok x->G'.ok x) (hcp:G.cap<=G'.cap):BusPost G' L0 rb fq T0 w M e w2 T lm fm va vn vc la ln lc pa pn pc :=
 ⟨h.ret,h.th.weaken hG hcp,h.st,h.rd,h.mp,h.fz,h.lat,h.prg⟩
theorem BusAt.weaken {bx cx:Nat} {vm:Value} (h:BusAt G L0 rb bx cx fq T0 w M lm fm vm T w2 la ln lc pa pn pc) (hG:∀ x,G.ok x->G'.ok x) (hcp:G.cap<=G'.cap):BusAt G' L0 rb bx cx fq T0 w M lm fm vm T w2 la ln lc pa pn pc :=
 ⟨h.th.weaken hG hcp,h.st,h.rd,h.mp,h.fz,h.lat,h.prg,h.c0,h.c1,h.c2,h.fr,h.r0,h.r1,h.r2,h.fc⟩
theorem BusAt.start {e:Ending} (hrb:rb∈L0) (hfq:∀ b,b∈fq->b∈L0) (hlt:rb<w.heap.size) (hold:∀ b,b∈fq->b<w.heap.size) (b1:Below w.heap.size w w1) (z1:w.heap.size<w1.heap.size) (ht:T0 w.heap.size=none)
 (hp:BusPost G (w.heap.size::L0) rb fq T0 w1 M e w2 T lm fm va vn vc la ln lc pa pn pc) (r0:∃ u,w1.cell? ⟨w.heap.size,0,none⟩=some u) (r1:∃ u,w1.cell? ⟨w.heap.size,1,none⟩=some u) (r2:∃ u,w1.cell? ⟨w.heap.size,2,none⟩=some u) (rf:∀ o,w1.frozen? ⟨w.heap.size,o,none⟩=false) (t:TypeId) :
 BusC (w2.heap.size::w.heap.size::L0) rb w2.heap.size w.heap.size fq w ∧
 BusAt G (w2.heap.size::w.heap.size::L0) rb w2.heap.size w.heap.size fq T0 w M lm fm (.slice va vn vc) T (w2.alloc (.cells #[.slice va vn vc,.slice la ln lc,.slice pa pn pc] t)) la ln lc pa pn pc:=by
 have z2:=hp.st.size;have bb:=below_alloc w2 (.cells #[.slice va vn vc,.slice la ln lc,.slice pa pn pc] t);have hnr:w.heap.size∉[rb]:=by simp;omega
 have hnb:w.heap.size≠rb:=by omega
 refine ⟨⟨by simp [hrb],by simp,by simp,fun b hb=>by simp [hfq b hb],by omega,hnb,by omega,fun hm=>by have:=hold _ hm;omega,fun hm=>by have:=hold _ hm;omega,by omega,Nat.le_refl _⟩,
  ⟨hp.th.opened bb (Nat.le_refl _) (by simp),((Step.of_chg (b1.chg [rb])).trans hp.st).trans (Step.of_chg (bb.chg [rb])),hp.rd.below bb,hp.mp.below mrR_fits bb,fun b hb=>?_,hp.lat,hp.prg,alloc1_new _ _ _ 0 rfl,alloc1_new _ _ _ 1 rfl,alloc1_new _ _ _ 2 rfl,fun o=>alloc1_free _ _ _ _,
   r0.imp fun u hu=>alloc_keep (hp.st.cell hu hnr ht) _,r1.imp fun u hu=>alloc_keep (hp.st.cell hu hnr ht) _,r2.imp fun u hu=>alloc_keep (hp.st.cell hu hnr ht) _,
   fun o=>keep_free bb (show w.heap.size<w2.heap.size by omega) ((World.frozen?_of_block (hp.st.block w.heap.size z1 hnr ht)).trans (rf o))⟩⟩
 obtain ⟨g1,g2,g3⟩:=hp.fz b hb;exact ⟨g1,by simp only [List.mem_cons,not_or] at g2 ⊢;exact ⟨by omega,g2⟩,by simp;omega⟩
theorem SlT.addr {k n:Nat} {a:Option Addr} (h:SlT T k a n) (hn:0<n):∃ b off,a=some ⟨b,off,none⟩:=by
 rcases h with rfl|⟨b,o,x,rfl,_⟩
 ·omega
 ·exact ⟨b,_,rfl⟩
theorem SlA.tail {k n cap b off:Nat} (h:SlA T k (some ⟨b,off,none⟩) n cap) (hn:1<cap) (h0:0<n) (hk:kK k=1):SlA T k (some ⟨b,off+1,none⟩) (n - 1) (cap - 1):=by
 obtain ⟨h1,h2,⟨h3,_⟩|⟨b',o,x,e,g1,g2,g3,g4⟩⟩:=h
 ·cases h3
 ·cases e;refine ⟨by omega,by omega,.inr ⟨b,o+1,x,?_,g1,g2,by omega,?_⟩⟩
  ·rw [hk];simp only [Nat.mul_one,Nat.add_assoc]
  ·rw [hk] at g4 ⊢;simp only [Nat.mul_one] at g4 ⊢;omega
theorem SlT.row {n i:Nat} {b off:Nat} (h:SlT T 4 (some ⟨b,off,none⟩) n) (hi:i<n) (hT:TH G L0 T w):∃ a nn cc,w.cell? ⟨b,off+i,none⟩=some (.slice a nn cc)∧SlA T 2 a nn cc∧nn<=G.cap∧T b≠none:=by
 rcases h with rfl|⟨b',o,x,e,hb,hk,hn⟩
 ·omega
 ·cases e;obtain ⟨cs,_,⟨a,nn,cc,rfl,hA,hc⟩,h3⟩:=hT.at' hb hk hn hi;have:=h3 0 (by simp);simp only [Nat.add_zero,List.getElem_cons_zero,kK,Nat.mul_one] at this;refine ⟨a,nn,cc,?_,hA,hc,by rw [hb];simp⟩;rw [show kK 4=1 from rfl,Nat.mul_one];exact this
theorem BusAt.move {L fq fm:List Nat} {rb bx cx:Nat} {T0 T T':Tab} {w0 w w':World} {M M':Int} {lm:List MR} {vm:Value} {la pa:Option Addr} {ln lc pn pc:Nat} (C:BusC L rb bx cx fq w0) (h:BusAt G L rb bx cx fq T0 w0 M lm fm vm T w la ln lc pa pn pc) (t:TH G L T' w') (s:Step [rb] T w T' w') (hr:RdAt w' rb fq M'):BusAt G L rb bx cx fq T0 w0 M' lm fm vm T' w' la ln lc pa pn pc:=by
 have tb:=h.th.rd bx C.hbx;have tc:=h.th.rd cx C.hcx;have q:∀ b,b∈[rb]->b∈L:=by simpa using C.hrb
 have n1:bx∉[rb]:=by simpa using C.n1
 have n2:cx∉[rb]:=by simpa using C.n2
 exact ⟨t,h.st.trans s,hr,h.mp.same mrR_fits (h.fz.same s q) s.size,h.fz.step s,h.lat.ext s.ext,h.prg.ext s.ext,s.cell h.c0 n1 tb,s.cell h.c1 n1 tb,s.cell h.c2 n1 tb,
  fun o=>(World.frozen?_of_block (s.block bx (block_of_cell h.c0) n1 tb)).trans (h.fr o),h.r0.imp fun u e=>s.cell e n2 tc,h.r1.imp fun u e=>s.cell e n2 tc,h.r2.imp fun u e=>s.cell e n2 tc,
  fun o=>(World.frozen?_of_block (s.block cx (h.th.old cx C.hcx) n2 tc)).trans (h.fc o)⟩
def OrI (L:List Nat) (rb:Nat) (fq:List Nat) (T:Tab) (w5:World) (nn:Nat) (base:Int) (ls:Nat->Bool) (u:Nat->Value) (m:Nat) (w:World):Prop :=
 RdAt w rb fq (base+3000*m) ∧
 (ls 9=false->Chg [rb] w5 w ∧
  (ls 7=true->∃ (x:Req) (da:Option Addr) (dn dc:Nat) (ea:Option Addr) (en ec:Nat),u 7 = .agg #[.int .i64 x.id,.int .i64 x.kind,.int .i64 x.addr,.int .i64 x.many,.bool x.wrap,.slice da dn dc,.slice ea en ec]∧UnitOk gAny L T w 2 [.int .i64 x.id,.int .i64 x.kind,.int .i64 x.addr,.int .i64 x.many,.bool x.wrap,.slice da dn dc,.slice ea en ec]) ∧
  (ls 8=true->∃ (b:Nat) (x:Req) (da:Option Addr) (dn dc:Nat) (ea:Option Addr) (en ec:Nat),u 8 = .slice (some ⟨b,0,none⟩) 1 1∧UnitOk gAny L T w 2 [.int .i64 x.id,.int .i64 x.kind,.int .i64 x.addr,.int .i64 x.many,.bool x.wrap,.slice da dn dc,.slice ea en ec] ∧
   ∀ j (hj:j<([.int .i64 x.id,.int .i64 x.kind,.int .i64 x.addr,.int .i64 x.many,.bool x.wrap,.slice da dn dc,.slice ea en ec]:List Value).length),w.cell? ((⟨b,0,none⟩:Addr).add j)=some ([.int .i64 x.id,.int .i64 x.kind,.int .i64 x.addr,.int .i64 x.many,.bool x.wrap,.slice da dn dc,.slice ea en ec]:List Value)[j])) ∧
 (ls 9=true->∃ (ao':Option Addr) (cap':Nat) (T':Tab),u 9 = .slice ao' (nn+1) cap'∧TH gAny L T' w∧Step [rb] T w5 T' w∧SlA T' 2 ao' (nn+1) cap')
variable {L:List Nat} {T':Tab} {w5 w':World} {nn m:Nat} {base:Int} {ls:Nat->Bool} {u:Nat->Value}
theorem OrI.cell (h:OrI L rb fq T w5 nn base ls u m w) {bx j:Nat} {v:Value} (hc:w5.cell? ⟨bx,j,none⟩=some v) (n:bx∉[rb]) (t:T bx=none):w.cell? ⟨bx,j,none⟩=some v:=by
 cases e:ls 9 with
 | false=>exact keep_cell_chg (h.2.1 e).1 hc n
 | true =>
  obtain ⟨_,_,T',_,_,s,_⟩:=h.2.2 e;exact s.cell hc n t
theorem OrI.next {i:Nat} {v:Value} (h7:7≠i) (h8:8≠i) (h9:9≠i) (h:OrI L rb fq T w5 nn base ls u m w):OrI L rb fq T w5 nn base (fun j=>decide (j=i) || ls j) (fun j=>if j=i then v else u j) (m+1) w:=by
 refine ⟨h.1.mono (by omega),fun e=>?_,fun e=>?_⟩
 ·simp only [h7,h8,h9,if_false,decide_false,Bool.false_or] at e ⊢;exact h.2.1 e
 ·simp only [h9,if_false,decide_false,Bool.false_or] at e ⊢;exact h.2.2 e
theorem OrI.seven (h:OrI L rb fq T w5 nn base ls u m w) (l8:ls 8=false) (l9:ls 9=false) (hc:Chg [rb] w w') (hr:RdAt w' rb fq (base+3000*m+2000)) {x:Req} {da:Option Addr} {dn dc:Nat} {ea:Option Addr} {en ec:Nat} (hU:UnitOk gAny L T w' 2 [.int .i64 x.id,.int .i64 x.kind,.int .i64 x.addr,.int .i64 x.many,.bool x.wrap,.slice da dn dc,.slice ea en ec]) :
 OrI L rb fq T w5 nn base (fun j=>decide (j=7) || ls j) (fun j=>if j=7 then .agg #[.int .i64 x.id,.int .i64 x.kind,.int .i64 x.addr,.int .i64 x.many,.bool x.wrap,.slice da dn dc,.slice ea en ec] else u j) (m+1) w':=by
 refine ⟨hr.mono (by omega),fun _=>⟨(h.2.1 l9).1.trans' hc,fun _=>⟨x,da,dn,dc,ea,en,ec,rfl,hU⟩,fun e=>?_⟩,fun e=>?_⟩
 ·have e':ls 8=true:=e;rw [l8] at e';cases e'
 ·have e':ls 9=true:=e;rw [l9] at e';cases e'
theorem OrI.eight (h:OrI L rb fq T w5 nn base ls u m w) (l9:ls 9=false) {x:Req} {da:Option Addr} {dn dc:Nat} {ea:Option Addr} {en ec:Nat} {t:TypeId} (hU:UnitOk gAny L T w 2 [.int .i64 x.id,.int .i64 x.kind,.int .i64 x.addr,.int .i64 x.many,.bool x.wrap,.slice da dn dc,.slice ea en ec]) :
 OrI L rb fq T w5 nn base (fun j=>decide (j=8) || ls j) (fun j=>if j=8 then .slice (some ⟨w.heap.size,0,none⟩) 1 1 else u j) (m+1) (w.alloc (.cells #[.int .i64 x.id,.int .i64 x.kind,.int .i64 x.addr,.int .i64 x.many,.bool x.wrap,.slice da dn dc,.slice ea en ec] t)):=by
 have ba:=below_alloc w (.cells #[.int .i64 x.id,.int .i64 x.kind,.int .i64 x.addr,.int .i64 x.many,.bool x.wrap,.slice da dn dc,.slice ea en ec] t);refine ⟨(h.1.below ba).mono (by omega),fun _=>⟨(h.2.1 l9).1.trans' (ba.chg _),fun e=>?_,fun _=>⟨w.heap.size,x,da,dn,dc,ea,en,ec,rfl,hU.step (Step.of_below [] ba) (by simp),fun j hj=>?_⟩⟩,fun e=>?_⟩
 ·obtain ⟨y,q1,q2,q3,q4,q5,q6,e7,hV⟩:=(h.2.1 l9).2.1 e;exact ⟨y,q1,q2,q3,q4,q5,q6,e7,hV.step (Step.of_below [] ba) (by simp)⟩
 ·rw [add_plain,Nat.zero_add];exact alloc1_new w _ _ j (by rw [List.getElem?_toArray];exact List.getElem?_eq_getElem hj)
 ·have e':ls 9=true:=e;rw [l9] at e';cases e'
theorem OrI.nine (h:OrI L rb fq T w5 nn base ls u m w) (l9:ls 9=false) (hL:rb∈L) (hq:∀ b,b∈fq->b∈L) (ht:TH gAny L T w) (t:TH gAny L T' w') (s:Step [] T w T' w') {ao':Option Addr} {cap':Nat} (hA:SlA T' 2 ao' (nn+1) cap') :
 OrI L rb fq T w5 nn base (fun j=>decide (j=9) || ls j) (fun j=>if j=9 then .slice ao' (nn+1) cap' else u j) (m+1) w':=by
 refine ⟨(h.1.step s (ht.rd rb hL) (fun b hb=>ht.rd b (hq b hb)) rfl).mono (by omega),fun e=>?_,fun _=>⟨ao',cap',T',rfl,t,(Step.of_chg (h.2.1 l9).1).trans (s.mono (by simp)),hA⟩⟩;simp at e
theorem OrI.start (h:RdAt w rb fq base) (hl:∀ i,ls i=false):OrI L rb fq T w nn base ls u 0 w.drew :=
 ⟨(h.below (Below.refl _ _).drew).mono (by omega),fun _=>⟨(Chg.refl _ _).drewN 1,fun e=>(by rw [hl] at e;cases e),fun e=>(by rw [hl] at e;cases e)⟩,fun e=>by rw [hl] at e;cases e⟩
end Go.Proofs.Ytmcjklicepaiaaa
