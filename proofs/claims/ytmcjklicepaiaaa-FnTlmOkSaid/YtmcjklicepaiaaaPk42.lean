/-
 Texts of this claim laid together: DReq.
-/
import Derived.Deep.DeepCutAuto
import Derived.Deep.CutBlock
import Derived.WalkSmall
import Derived.Test.YtmcjklicepaiaaaPk40
import Derived.Test.YtmcjklicepaiaaaPk41
set_option linter.unusedVariables false
set_option linter.unusedSimpArgs false
namespace Go.Proofs.Ytmcjklicepaiaaa
open Go.RowKit Go.ChangeShapes Go.WideShapes
set_option maxRecDepth 100000 in
set_option maxHeartbeats 6400000 in
theorem l20Req_any (rb:Nat) (fq:List Nat) (N n:Int) (hn:1<=n) (hn':n<=1000000) (hN:N<=990000000) (w:World) (h:RdAt w rb fq N) (fl:∀ b,b∈fq->b<w.heap.size) :
 Calls Try.prog 45 #[.pointer (some ⟨rb,0,none⟩),.int .i64 n] w fun e w'=>∃ (x:Req) (vd vl:Value) (fd fl':List Nat),e = .returned (.agg #[.int .i64 x.id,.int .i64 x.kind,.int .i64 x.addr,.int .i64 x.many,.bool x.wrap,vd,vl])∧SlR 1 intR w' x.data vd fd∧SlR 1 intR w' x.lanes vl fl'∧x.data.length<=20∧x.lanes.length<=20∧(9000<=n->reqOk x=true)∧(∀ b,b∈fd++fl'->w.heap.size<=b)∧RdAt w' rb fq (N+2000)∧Chg [rb] w w':=by
 have hlt:=h.lt;have FL:=Lib.hid fl;obtain ⟨i0,ki,kz0,kz1,kz2⟩:=info_parts infoInt;obtain ⟨W0,hW⟩:∃ W,W=w.alloc (.cells #[.int .i64 0,.int .i64 0,.int .i64 0,.int .i64 0,.bool false,.slice none 0 0,.slice none 0 0] 26):=⟨_,rfl⟩;have hb0:Below w.heap.size w W0:=by rw [hW];exact below_alloc _ _
 have hz0:W0.heap.size=w.heap.size+1:=by rw [hW];simp
 have HR0:Hid (∀ j,j<7->∃ u,W0.cell? ⟨w.heap.size,j,none⟩=some u):=Lib.hid (fun j hj=>by rw [hW];exact ⟨_,alloc1_new w _ _ j (by simp [hj];rfl)⟩);have HF0:Hid (∀ j,W0.frozen? ⟨w.heap.size,j,none⟩=false):=Lib.hid (fun j=>by rw [hW];exact World.frozen?_alloc_at _ _ _ _ rfl);have H0:=Lib.hid (h.below hb0);have B0:=Lib.hid hb0;have HZ0:=Lib.hid hz0;clear h fl hb0 hz0;go_enter Try.func45,Try.ntmps45
 go_wp2_with fail
 rw [<- hW];clear hW;have hst:∀ F,F∈[FEq (.pointer (some ⟨rb,0,none⟩)),FInt (0) (1),FEq (.pointer (some ⟨rb,0,none⟩)),FInt (0) (3),FInt (1) (4),FEq (.pointer (some ⟨rb,0,none⟩)),FInt (0) (63),FSlP [rb] 4 P124,FEq (.pointer (some ⟨rb,0,none⟩)),FInt (0) (3),FPtrP [rb] P124,FIntP P124,FEq (.pointer (some ⟨rb,0,none⟩)),FInt (0) (2),FBool,FReq0,FBox W0.heap.size]->Stable [rb] F:=by
  simp only [List.forall_mem_cons];exact ⟨stEq _ _,stInt _ _ _,stEq _ _,stInt _ _ _,stInt _ _ _,stEq _ _,stInt _ _ _,stSlP _ _ _,stEq _ _,stInt _ _ _,stPtrP _ _,stIntP _ _,stEq _ _,stInt _ _ _,stBool _,fun _ _ _ h _=>h,stBox (by have:=H0.out.lt;omega),fun _ h=>by simp at h⟩
 refine wp_region_tail (by kernel_rfl) (fun i=>([[],[0],[],[0,1,2],[0,1,2,3],[],[0,1,2,3,5],[],[],[0,1,2,3,5,6,8],[0,1,2,3,5,6,7,8,9],[0,1,2,3,5,6,7,8,9,10],[],[0,1,2,3,5,6,8,9,12],[0,1,2,3,5,6,8,9,12,13],[0,1,2,3,4,5,6,7,8,9,10,11,12,13,14],[],[0,1,2,3,4,5,6,7,8,9,10,11,12,13,14,15,16]]:List (List Nat)).getD i []) (facts [FEq (.pointer (some ⟨rb,0,none⟩)),FInt (0) (1),FEq (.pointer (some ⟨rb,0,none⟩)),FInt (0) (3),FInt (1) (4),FEq (.pointer (some ⟨rb,0,none⟩)),FInt (0) (63),FSlP [rb] 4 P124,FEq (.pointer (some ⟨rb,0,none⟩)),FInt (0) (3),FPtrP [rb] P124,FIntP P124,FEq (.pointer (some ⟨rb,0,none⟩)),FInt (0) (2),FBool,FReq0,FBox W0.heap.size]) (fun m w'=>RdAt w' rb fq (N+10*m)∧Chg [rb] W0 w') 153 18 17 [some 7,some 8,some 9,some 10,some 11,some 12,some 13,some 14,some 15,some 16,some 17,some 18,some 19,some 20,some 21,some 22,some 5] _ rfl rfl (by decide) rfl rfl (by kernel_rfl) (by kernel_rfl) [] (by kernel_rfl) (fun g b hm v w h=>by simp at hm) ?h0 (all_lt (n:=17) ?hop) ?hend
 case h0=>exact ⟨(H0.out.below (Below.refl _ _).drew).mono (by omega),(Chg.refl _ _).drewN 1⟩
 case hop =>
  refine ⟨⟨⟨⟨⟨⟨⟨⟨⟨⟨⟨⟨⟨⟨⟨⟨⟨trivial,?_⟩,?_⟩,?_⟩,?_⟩,?_⟩,?_⟩,?_⟩,?_⟩,?_⟩,?_⟩,?_⟩,?_⟩,?_⟩,?_⟩,?_⟩,?_⟩,?_⟩
  ·refine Owes.mk _ rfl rfl (fun _ _ h=>by cases h) fun u m w' hm ⟨hI,hc⟩ hR=>⟨⟨(frm 153 [(0,.pointer (some ⟨rb,0,none⟩))]).toArray,[]⟩,rfl,fun d hd=>by cases hd;exact frm_lt (by decide),?_⟩;dsimp only [frm,List.foldl,List.replicate,List.set];have hm:m<18:=hm;clear hR;go_wp2;exact ⟨rfl,_,rfl,rfl,⟨hI.mono (by omega),hc⟩,fun _ _ h=>h⟩
  ·refine Owes.mk _ rfl rfl (fun _ _ h=>by cases h) fun u m w' hm ⟨hI,hc⟩ hR=>⟨⟨(frm 153 [(7,u 0)]).toArray,[]⟩,rfl,fun d hd=>by cases hd;exact frm_lt (by decide),?_⟩;dsimp only [frm,List.foldl,List.replicate,List.set];have hm:m<18:=hm;have ea0:u 0=_:=hR 0 (by decide);clear hR;rw [ea0];go_wp2_with fail
   refine (pick_any rb fq (N+10*m) 2 (by omega) (by omega) (by omega) _ hI).mono ?_;rintro e w2 ⟨x,rfl,lo,hi,g1,g2⟩;have hs:=facts_stable hst g2;have G1:=Lib.hid (g1.mono (show N+10*(m:Int)+1<=N+10*((m+1:Nat):Int) by omega));have G2:=Lib.hid (hc.trans' g2);have HS:=Lib.hid hs;clear g1 g2 hs hc hI hst;go_wp2;exact ⟨rfl,_,rfl,⟨x,by omega,by omega,rfl⟩,⟨G1.out,G2.out⟩,HS.out⟩
  ·refine Owes.mk _ rfl rfl (fun _ _ h=>by cases h) fun u m w' hm ⟨hI,hc⟩ hR=>⟨⟨(frm 153 [(0,.pointer (some ⟨rb,0,none⟩))]).toArray,[]⟩,rfl,fun d hd=>by cases hd;exact frm_lt (by decide),?_⟩;dsimp only [frm,List.foldl,List.replicate,List.set];have hm:m<18:=hm;clear hR;go_wp2;exact ⟨rfl,_,rfl,rfl,⟨hI.mono (by omega),hc⟩,fun _ _ h=>h⟩
  ·refine Owes.mk _ rfl rfl (fun _ _ h=>by cases h) fun u m w' hm ⟨hI,hc⟩ hR=>⟨⟨(frm 153 [(9,u 2)]).toArray,[]⟩,rfl,fun d hd=>by cases hd;exact frm_lt (by decide),?_⟩;dsimp only [frm,List.foldl,List.replicate,List.set];have hm:m<18:=hm;have ea0:u 2=_:=hR 2 (by decide);clear hR;rw [ea0];go_wp2_with fail
   refine (pick_any rb fq (N+10*m) 4 (by omega) (by omega) (by omega) _ hI).mono ?_;rintro e w2 ⟨x,rfl,lo,hi,g1,g2⟩;have hs:=facts_stable hst g2;have G1:=Lib.hid (g1.mono (show N+10*(m:Int)+1<=N+10*((m+1:Nat):Int) by omega));have G2:=Lib.hid (hc.trans' g2);have HS:=Lib.hid hs;clear g1 g2 hs hc hI hst;go_wp2;exact ⟨rfl,_,rfl,⟨x,by omega,by omega,rfl⟩,⟨G1.out,G2.out⟩,HS.out⟩
  ·refine Owes.mk _ rfl rfl (fun _ _ h=>by cases h) fun u m w' hm ⟨hI,hc⟩ hR=>⟨⟨(frm 153 [(10,u 3)]).toArray,[]⟩,rfl,fun d hd=>by cases hd;exact frm_lt (by decide),?_⟩;dsimp only [frm,List.foldl,List.replicate,List.set];have hm:m<18:=hm;obtain ⟨xb,lb,hb,eb⟩:=hR 3 (by decide);clear hR;rw [eb];go_wp2;exact ⟨rfl,_,rfl,⟨_,by omega,by omega,rfl⟩,⟨hI.mono (by omega),hc⟩,fun _ _ h=>h⟩
  ·refine Owes.mk _ rfl rfl (fun _ _ h=>by cases h) fun u m w' hm ⟨hI,hc⟩ hR=>⟨⟨(frm 153 [(0,.pointer (some ⟨rb,0,none⟩))]).toArray,[]⟩,rfl,fun d hd=>by cases hd;exact frm_lt (by decide),?_⟩;dsimp only [frm,List.foldl,List.replicate,List.set];have hm:m<18:=hm;clear hR;go_wp2;exact ⟨rfl,_,rfl,rfl,⟨hI.mono (by omega),hc⟩,fun _ _ h=>h⟩
  ·refine Owes.mk _ rfl rfl (fun _ _ h=>by cases h) fun u m w' hm ⟨hI,hc⟩ hR=>⟨⟨(frm 153 [(12,u 5)]).toArray,[]⟩,rfl,fun d hd=>by cases hd;exact frm_lt (by decide),?_⟩;dsimp only [frm,List.foldl,List.replicate,List.set];have hm:m<18:=hm;have ea0:u 5=_:=hR 5 (by decide);clear hR;rw [ea0];go_wp2_with fail
   refine (l20Addr_any rb fq (N+10*m) (by omega) _ hI).mono ?_;rintro e w2 ⟨⟨x,lo,hi,rfl⟩,g1,g2⟩;have hs:=facts_stable hst g2;have G1:=Lib.hid (g1.mono (show _<=N+10*((m+1:Nat):Int) by omega));have G2:=Lib.hid (hc.trans' g2);have HS:=Lib.hid hs;clear g1 g2 hs hc hI hst;go_wp2;exact ⟨rfl,_,rfl,⟨x,by omega,by omega,rfl⟩,⟨G1.out,G2.out⟩,HS.out⟩
  ·refine Owes.mk _ rfl rfl (fun _ _ h=>by cases h) fun u m w' hm ⟨hI,hc⟩ hR=>⟨⟨(frm 153 []).toArray,[]⟩,rfl,fun d hd=>by cases hd;exact frm_lt (by decide),?_⟩;dsimp only [frm,List.foldl,List.replicate,List.set];have hm:m<18:=hm;have hlt:=hI.lt;have nb:w'.heap.size∉[rb]:=by simp;omega
   have HI:=Lib.hid hI;have HC:=Lib.hid hc;have ba:=below_alloc w' (.cells #[.int .i64 1,.int .i64 1,.int .i64 2,.int .i64 4] 3);have HS:=Lib.hid (facts_stable hst (ba.chg [rb]));have HB:=Lib.hid ba;clear hI hc hlt hst hR ba;go_wp2;refine ⟨rfl,_,rfl,⟨_,rfl,nb,fun i hi=>?_⟩,⟨(HI.out.below HB.out).mono (by omega),HC.out.trans' (HB.out.chg _)⟩,HS.out⟩;have hx:i=0∨i=1∨i=2∨i=3:=by omega
   rcases hx with rfl|rfl|rfl|rfl
   ·exact ⟨1,.inl rfl,alloc1_new _ _ _ 0 rfl⟩
   ·exact ⟨1,.inl rfl,alloc1_new _ _ _ 1 rfl⟩
   ·exact ⟨2,.inr (.inl rfl),alloc1_new _ _ _ 2 rfl⟩
   ·exact ⟨4,.inr (.inr rfl),alloc1_new _ _ _ 3 rfl⟩
  ·refine Owes.mk _ rfl rfl (fun _ _ h=>by cases h) fun u m w' hm ⟨hI,hc⟩ hR=>⟨⟨(frm 153 [(0,.pointer (some ⟨rb,0,none⟩))]).toArray,[]⟩,rfl,fun d hd=>by cases hd;exact frm_lt (by decide),?_⟩;dsimp only [frm,List.foldl,List.replicate,List.set];have hm:m<18:=hm;clear hR;go_wp2;exact ⟨rfl,_,rfl,rfl,⟨hI.mono (by omega),hc⟩,fun _ _ h=>h⟩
  ·refine Owes.mk _ rfl rfl (fun _ _ h=>by cases h) fun u m w' hm ⟨hI,hc⟩ hR=>⟨⟨(frm 153 [(15,u 8)]).toArray,[]⟩,rfl,fun d hd=>by cases hd;exact frm_lt (by decide),?_⟩;dsimp only [frm,List.foldl,List.replicate,List.set];have hm:m<18:=hm;have ea0:u 8=_:=hR 8 (by decide);clear hR;rw [ea0];go_wp2_with fail
   refine (pick_any rb fq (N+10*m) 4 (by omega) (by omega) (by omega) _ hI).mono ?_;rintro e w2 ⟨x,rfl,lo,hi,g1,g2⟩;have hs:=facts_stable hst g2;have G1:=Lib.hid (g1.mono (show N+10*(m:Int)+1<=N+10*((m+1:Nat):Int) by omega));have G2:=Lib.hid (hc.trans' g2);have HS:=Lib.hid hs;clear g1 g2 hs hc hI hst;go_wp2;exact ⟨rfl,_,rfl,⟨x,by omega,by omega,rfl⟩,⟨G1.out,G2.out⟩,HS.out⟩
  ·refine Owes.mk _ rfl rfl (fun _ _ h=>by cases h) fun u m w' hm ⟨hI,hc⟩ hR=>⟨⟨(frm 153 [(14,u 7),(16,u 9)]).toArray,[]⟩,rfl,fun d hd=>by cases hd;exact frm_lt (by decide),?_⟩;dsimp only [frm,List.foldl,List.replicate,List.set];have hm:m<18:=hm;obtain ⟨xv1,lv1,hv1,ev1⟩:=hR 9 (by decide);rw [ev1];obtain ⟨bs,es,ns,cs⟩:=hR 7 (by decide);rw [es];obtain ⟨q,rfl⟩:=Int.eq_ofNat_of_zero_le lv1;obtain ⟨y,hy1,hy⟩:=cs q (by omega);have qlt:(q:Int)<4:=by omega
   clear cs hst;go_wp2;exact ⟨rfl,_,rfl,⟨_,_,y,rfl,ns,hy1,by simpa using hy⟩,⟨hI.mono (by omega),hc⟩,fun _ _ h=>h⟩
  ·refine Owes.mk _ rfl rfl (fun _ _ h=>by cases h) fun u m w' hm ⟨hI,hc⟩ hR=>⟨⟨(frm 153 [(17,u 10)]).toArray,[]⟩,rfl,fun d hd=>by cases hd;exact frm_lt (by decide),?_⟩;dsimp only [frm,List.foldl,List.replicate,List.set];have hm:m<18:=hm;obtain ⟨bs,is,xs,es,ns,ps,cs⟩:=hR 10 (by decide);rw [es];clear hst;go_wp2;exact ⟨rfl,_,rfl,⟨xs,ps,rfl⟩,⟨hI.mono (by omega),hc⟩,fun _ _ h=>h⟩
  ·refine Owes.mk _ rfl rfl (fun _ _ h=>by cases h) fun u m w' hm ⟨hI,hc⟩ hR=>⟨⟨(frm 153 [(0,.pointer (some ⟨rb,0,none⟩))]).toArray,[]⟩,rfl,fun d hd=>by cases hd;exact frm_lt (by decide),?_⟩;dsimp only [frm,List.foldl,List.replicate,List.set];have hm:m<18:=hm;clear hR;go_wp2;exact ⟨rfl,_,rfl,rfl,⟨hI.mono (by omega),hc⟩,fun _ _ h=>h⟩
  ·refine Owes.mk _ rfl rfl (fun _ _ h=>by cases h) fun u m w' hm ⟨hI,hc⟩ hR=>⟨⟨(frm 153 [(19,u 12)]).toArray,[]⟩,rfl,fun d hd=>by cases hd;exact frm_lt (by decide),?_⟩;dsimp only [frm,List.foldl,List.replicate,List.set];have hm:m<18:=hm;have ea0:u 12=_:=hR 12 (by decide);clear hR;rw [ea0];go_wp2_with fail
   refine (pick_any rb fq (N+10*m) 3 (by omega) (by omega) (by omega) _ hI).mono ?_;rintro e w2 ⟨x,rfl,lo,hi,g1,g2⟩;have hs:=facts_stable hst g2;have G1:=Lib.hid (g1.mono (show N+10*(m:Int)+1<=N+10*((m+1:Nat):Int) by omega));have G2:=Lib.hid (hc.trans' g2);have HS:=Lib.hid hs;clear g1 g2 hs hc hI hst;go_wp2;exact ⟨rfl,_,rfl,⟨x,by omega,by omega,rfl⟩,⟨G1.out,G2.out⟩,HS.out⟩
  ·refine Owes.mk _ rfl rfl (fun _ _ h=>by cases h) fun u m w' hm ⟨hI,hc⟩ hR=>⟨⟨(frm 153 [(20,u 13)]).toArray,[]⟩,rfl,fun d hd=>by cases hd;exact frm_lt (by decide),?_⟩;dsimp only [frm,List.foldl,List.replicate,List.set];have hm:m<18:=hm;obtain ⟨xa,la,ha,ea⟩:=hR 13 (by decide);clear hR;rw [ea];go_wp2;exact ⟨rfl,_,rfl,⟨_,rfl⟩,⟨hI.mono (by omega),hc⟩,fun _ _ h=>h⟩
  ·refine Owes.mk _ rfl rfl (fun _ _ h=>by cases h) fun u m w' hm ⟨hI,hc⟩ hR=>⟨⟨(frm 153 [(8,u 1),(11,u 4),(13,u 6),(18,u 11),(21,u 14)]).toArray,[]⟩,rfl,fun d hd=>by cases hd;exact frm_lt (by decide),?_⟩;dsimp only [frm,List.foldl,List.replicate,List.set];have hm:m<18:=hm;obtain ⟨xv0,lv0,hv0,ev0⟩:=hR 1 (by decide);obtain ⟨xv1,lv1,hv1,ev1⟩:=hR 4 (by decide);obtain ⟨xv2,lv2,hv2,ev2⟩:=hR 6 (by decide);obtain ⟨xv4,ev4⟩:=hR 14 (by decide);rw [ev0,ev1,ev2,ev4];obtain ⟨xm,pm,em⟩:=hR 11 (by decide);rw [em];clear hst;go_wp2;exact ⟨rfl,_,rfl,⟨xv0,xv1,xv2,xm,xv4,rfl,by omega,by omega,by omega,by omega,by omega,by omega,pm⟩,⟨hI.mono (by omega),hc⟩,fun _ _ h=>h⟩
  ·refine Owes.mk _ rfl rfl (fun _ _ h=>by cases h) fun u m w' hm ⟨hI,hc⟩ hR=>⟨⟨(frm 153 []).toArray,[]⟩,rfl,fun d hd=>by cases hd;exact frm_lt (by decide),?_⟩;dsimp only [frm,List.foldl,List.replicate,List.set];have hm:m<18:=hm;have HI:=Lib.hid hI;have HC:=Lib.hid hc;have HS:=Lib.hid (facts_stable hst ((below_alloc w' (.cells #[.int .i64 0,.int .i64 0,.int .i64 0,.int .i64 0,.bool false,.slice none 0 0,.slice none 0 0] 26)).chg [rb]));clear hI hc hst hR;go_wp2;exact ⟨rfl,_,rfl,⟨_,rfl,HC.out.size,fun j hj=>⟨_,alloc1_new w' _ _ j (by simp [hj];rfl)⟩,fun j=>World.frozen?_alloc_at _ _ _ _ rfl⟩,⟨(HI.out.below (below_alloc _ _)).mono (by omega),HC.out.trans' ((below_alloc _ _).chg [rb])⟩,HS.out⟩
 case hend =>
  intro u w' ⟨hI,hc⟩ hR;simp only [setAll,List.set_cons_zero,List.set_cons_succ];obtain ⟨id,kd,ad,mn,wp,e15,j0,j1,k0,k1,a0,a1,pm⟩:=hR 15 (by decide);obtain ⟨bq,e16,zq,cq,fq'⟩:=hR 16 (by decide);rw [e15,e16];obtain ⟨q0,t0⟩:=cq 0 (by omega);obtain ⟨q1,t1⟩:=cq 1 (by omega);obtain ⟨q2,t2⟩:=cq 2 (by omega);obtain ⟨q3,t3⟩:=cq 3 (by omega);obtain ⟨q4,t4⟩:=cq 4 (by omega);obtain ⟨q5,t5⟩:=cq 5 (by omega);obtain ⟨q6,t6⟩:=cq 6 (by omega);have f0:=fq' 0;have f1:=fq' 1;have f2:=fq' 2;have f3:=fq' 3;have f4:=fq' 4;have f5:=fq' 5;have f6:=fq' 6;have HI:=Lib.hid hI;have HC:=Lib.hid hc;have CQ:=Lib.hid cq;have FQ:=Lib.hid fq';clear hR hst e15 e16 hI hc cq fq';have hcell:∀ j (hj:j<7),(putCells bq w' 0 [.int .i64 id,.int .i64 kd,.int .i64 ad,.int .i64 mn,.bool wp,.slice none 0 0,.slice none 0 0]).cell? ⟨bq,j,none⟩=some ([Value.int .i64 id,.int .i64 kd,.int .i64 ad,.int .i64 mn,.bool wp,.slice none 0 0,.slice none 0 0][j]'hj):=fun j hj=>by
   have:=putCells_in (g:=bq) [.int .i64 id,.int .i64 kd,.int .i64 ad,.int .i64 mn,.bool wp,.slice none 0 0,.slice none 0 0] w' 0 j hj (fun q hq=>by rw [Nat.zero_add];exact CQ.out q hq)
   rwa [Nat.zero_add] at this
  have hfree:∀ j,(putCells bq w' 0 [.int .i64 id,.int .i64 kd,.int .i64 ad,.int .i64 mn,.bool wp,.slice none 0 0,.slice none 0 0]).frozen? ⟨bq,j,none⟩=false:=fun j=>putCells_free (g:=bq) [.int .i64 id,.int .i64 kd,.int .i64 ad,.int .i64 mn,.bool wp,.slice none 0 0,.slice none 0 0] w' 0 (fp:=[bq]) (fun b hb o=>by simp at hb;subst hb;exact FQ.out o) _ (by simp) j;have hq:QAt bq (putCells bq w' 0 [.int .i64 id,.int .i64 kd,.int .i64 ad,.int .i64 mn,.bool wp,.slice none 0 0,.slice none 0 0]) ⟨id,kd,ad,mn,wp,[],[]⟩ (.slice none 0 0) (.slice none 0 0) :=
   ⟨hcell 0 (by omega),hcell 1 (by omega),hcell 2 (by omega),hcell 3 (by omega),hcell 4 (by omega),hcell 5 (by omega),hcell 6 (by omega),hfree,OwnR.nil _ _,OwnR.nil _ _,.inl rfl⟩
  have hzw:w.heap.size<bq:=by have:=HZ0.out;omega
  have hch:Low rb bq W0 (putCells bq w' 0 [.int .i64 id,.int .i64 kd,.int .i64 ad,.int .i64 mn,.bool wp,.slice none 0 0,.slice none 0 0]):=Low.step (b:=w') ⟨zq,HC.out⟩ (putCells_chg (g:=bq) (fp:=[bq]) (by simp) [.int .i64 id,.int .i64 kd,.int .i64 ad,.int .i64 mn,.bool wp,.slice none 0 0,.slice none 0 0] w' 0) (fun k hk=>by simp at hk;omega);have hrd:RdAt (putCells bq w' 0 [.int .i64 id,.int .i64 kd,.int .i64 ad,.int .i64 mn,.bool wp,.slice none 0 0,.slice none 0 0]) rb fq (N+200):=(HI.out.chg (putCells_chg (g:=bq) (fp:=[bq]) (by simp) [.int .i64 id,.int .i64 kd,.int .i64 ad,.int .i64 mn,.bool wp,.slice none 0 0,.slice none 0 0] w' 0) (by simp;omega) (fun b hb hb'=>by have:=FL.out b hb;simp at hb';omega)).mono (by omega);have HQ1:=Lib.hid hq;have HR1:=Lib.hid hrd;have HC1:=Lib.hid hch;clear hcell hfree CQ FQ HI HC H0 zq hq hch hrd
  go_upto_if 25 with fail
  change Code.wp _ _ _ _ (putCells bq w' 0 [.int .i64 id,.int .i64 kd,.int .i64 ad,.int .i64 mn,.bool wp,.slice none 0 0,.slice none 0 0])
  obtain ⟨W1,hW1⟩:∃ W,W=putCells bq w' 0 [.int .i64 id,.int .i64 kd,.int .i64 ad,.int .i64 mn,.bool wp,.slice none 0 0,.slice none 0 0]:=⟨_,rfl⟩;rw [<- hW1] at HQ1 HR1 HC1 ⊢;clear hW1 t0 t1 t2 t3 t4 t5 t6 f0 f1 f2 f3 f4 f5 f6;have hrbq:rb<bq:=by omega
  have hfl:∀ b,b∈fq->b<bq:=fun b hb=>by have:=FL.out b hb;omega
  have FLB:=Lib.hid hfl;have PM:=Lib.hid pm;clear hfl pm
  go_cut [] (fun wc=>∃ (x:Req) (vd vl:Value),QAt bq wc x vd vl∧x.data=[]∧x.lanes=[]∧Good0 x∧RdAt wc rb fq (N+400)∧Low rb bq W0 wc)
  case first =>
   by_cases h3:3<=kd
   ·have c3:=HQ1.out.c3;have f3:=HQ1.out.fz 3;go_wp2_with fail
    obtain ⟨W2,hW2⟩:∃ W,W=W1.setCell ⟨bq,3,none⟩ (.int .i64 1):=⟨_,rfl⟩;rw [<- hW2];have HQ2:=Lib.hid (show QAt bq W2 ⟨id,kd,ad,1,wp,[],[]⟩ (.slice none 0 0) (.slice none 0 0) by rw [hW2];exact HQ1.out.setMany 1);have HR2:=Lib.hid (show RdAt W2 rb fq (N+200) by rw [hW2];exact HR1.out.chg (store_chg _) (by simp;omega) (fun b hb hb'=>by have:=FLB.out b hb;simp at hb';omega));have HC2:=Lib.hid (show Low rb bq W0 W2 by rw [hW2];exact HC1.out.step (store_chg _) (fun k hk=>by simp at hk;omega));have hz12:W2.heap.size=W1.heap.size:=by rw [hW2];simp
    clear hW2 c3 f3 HQ1 HR1 HC1;have ba:=below_alloc W2 (.cells #[.int .i64 0,.int .i64 1,.int .i64 16,.int .i64 32] 3);have nw:W2.heap.size∉[rb]:=by have:=HQ2.out.lt;simp;omega
    refine (pick_any rb fq (N+200) 4 (by omega) (by omega) (by omega) _ (HR2.out.below ba)).mono ?_;rintro e w3 ⟨x3,rfl,lo3,hi3,h1,h2⟩;have d0:=keep_cell_chg h2 (alloc1_new W2 _ _ 0 rfl) nw;have d1:=keep_cell_chg h2 (alloc1_new W2 _ _ 1 rfl) nw;have d2:=keep_cell_chg h2 (alloc1_new W2 _ _ 2 rfl) nw;have d3:=keep_cell_chg h2 (alloc1_new W2 _ _ 3 rfl) nw;rw [hz12] at d0 d1 d2 d3;have HQ3:=Lib.hid (QAt.chg (QAt.below HQ2.out ba) h2 hrbq);have HR3:=Lib.hid h1;have HC3:=Lib.hid (Low.step (Low.below HC2.out (ba.mono (Nat.le_of_lt HQ2.out.lt))) h2 (fun k hk=>by simp at hk;omega));have c2:=HQ3.out.c2;have f2:=HQ3.out.fz 2;clear h1 h2 ba HQ2 HR2 HC2 hz12;have hx:x3=0∨x3=1∨x3=2∨x3=3:=by omega
    rcases hx with rfl|rfl|rfl|rfl
    all_goals
     go_wp2_with fail
     go_meet
    all_goals first
     | (case rel=>exact ⟨_,_,_,HQ3.out.setAddr _,rfl,rfl,⟨j0,j1,k0,k1,by simp,by simp,.inl rfl,fun _=>rfl⟩,(HR3.out.chg (store_chg _) (by simp;omega) (fun b hb hb'=>by have:=FLB.out b hb;simp at hb';omega)).mono (by omega),HC3.out.step (store_chg _) (fun k hk=>by simp at hk;omega)⟩)
   ·go_wp2_with fail
    go_meet
    case rel=>exact ⟨_,_,_,HQ1.out,rfl,rfl,⟨j0,j1,k0,k1,a0,a1,PM.out,fun h=>absurd h (by simp;omega)⟩,HR1.out.mono (by omega),HC1.out⟩
  case rest =>
   clear HQ1 HR1 HC1 PM;obtain ⟨x,vd,vl,hq,hx1,hx2,hg0,hrd,hch⟩:=hcut;have HG:=Lib.hid hg0;have a0':=hg0.a0;have a1':=hg0.a1;have m0':1<=x.many:=by rcases hg0.m with e|e|e<;>omega
   have m1':x.many<=4:=by rcases hg0.m with e|e|e<;>omega
   have HQ1:=Lib.hid hq;have HR1:=Lib.hid hrd;have HC1:=Lib.hid hch;have HX1:=Lib.hid hx1;have HX2:=Lib.hid hx2;have c2:=hq.c2;have c3:=hq.c3;have c4:=hq.c4;have f2:=hq.fz 2;clear hq hrd hch hg0 hx1 hx2;go_upto_region 5 with fail
   go_cut [44] (fun s44 wx=>IsBP (fun b=>b=false->(x.wrap=true∨x.addr+x.many<=64)) s44∧wx=wc)
   case first =>
    cases hw:x.wrap
    ·rw [hw] at c4;by_cases hgt:63<x.addr+x.many - 1
     ·go_wp2_with fail
      go_meet
      case rel=>exact ⟨⟨true,by simp,fun h=>by cases h⟩,rfl⟩
     ·go_wp2_with fail
      go_meet
      case rel=>exact ⟨⟨false,by simp,fun _=>.inr (by omega)⟩,rfl⟩
    ·rw [hw] at c4;have HW:=Lib.hid hw;clear hw;go_wp2_with fail
     go_meet
     case rel=>exact ⟨⟨false,rfl,fun _=>.inl HW.out⟩,rfl⟩
   case rest =>
    obtain ⟨⟨b44,rfl,hb44⟩,rfl⟩:=hcut;have HB44:=Lib.hid hb44;clear hb44
    go_upto_if 44 with fail
    go_cut [] (fun wc=>∃ (x:Req) (vd vl:Value),QAt bq wc x vd vl∧x.data=[]∧x.lanes=[]∧Good1 x∧RdAt wc rb fq (N+500)∧Low rb bq W0 wc)
    case first =>
     cases b44
     ·go_wp2_with fail
      go_meet
      case rel=>exact ⟨x,vd,vl,HQ1.out,HX1.out,HX2.out,⟨HG.out,HB44.out (by simp)⟩,HR1.out.mono (by omega),HC1.out⟩
     ·clear HB44;go_wp2_with fail
      go_meet
      case rel=>exact ⟨_,_,_,HQ1.out.setAddr _,HX1.out,HX2.out,⟨⟨HG.out.i0,HG.out.i1,HG.out.k0,HG.out.k1,by simp;omega,by simp;omega,HG.out.m,HG.out.h⟩,.inr (by simp;omega)⟩,(HR1.out.chg (store_chg _) (by simp;omega) (fun b hb hb'=>by have:=FLB.out b hb;simp at hb';omega)).mono (by omega),HC1.out.step (store_chg _) (fun k hk=>by simp at hk;omega)⟩
    case rest =>
     clear HQ1 HR1 HC1 c2 c3 c4 f2 HX1 HX2 HG HB44 a0' a1' m0' m1';obtain ⟨x,vd,vl,hq,hx1,hx2,hg1,hrd,hch⟩:=hcut;have HG:=Lib.hid hg1;have HQ1:=Lib.hid hq;have HR1:=Lib.hid hrd;have HC1:=Lib.hid hch;have HX1:=Lib.hid hx1;have HX2:=Lib.hid hx2;have c1:=hq.c1;clear hq hrd hch hx1 hx2 hg1;go_upto_region 7 with fail
     go_cut [57] (fun s57 wx=>IsBP (fun b=>b=writesB x) s57∧wx=wc)
     case first =>
      cases e2:(x.kind == 2)
      ·go_wp2_with fail
       go_meet
       case rel=>exact ⟨⟨_,rfl,by unfold writesB;rw [e2];rfl⟩,rfl⟩
      ·go_wp2_with fail
       go_meet
       case rel=>exact ⟨⟨_,rfl,by unfold writesB;rw [e2];rfl⟩,rfl⟩
     case rest =>
      obtain ⟨⟨b57,rfl,hb57⟩,rfl⟩:=hcut;have HB57:=Lib.hid hb57;clear c1 hb57
      go_upto_if 57 with fail
      go_cut [] (fun wc=>∃ (x:Req) (vd vl:Value),QAt bq wc x vd vl∧x.data.length<=4∧x.lanes.length<=4∧reqOk x=true∧RdAt wc rb fq (N+700)∧Low rb bq W0 wc)
      case first =>
       refine l20Req_words rb bq fq N n W0 _ x vd vl b57 hN hrbq FLB HQ1 HX1 HX2 HG HB57 HR1 HC1 _ _ (Lib.hid ?_)
       intros
       go_wp2_with fail
       go_meet
       case rel=>assumption
      case rest =>
       clear HQ1 HR1 HC1 HX1 HX2 HG HB57;obtain ⟨x,vd,vl,hq,hd4,hl4,hok,hrd,hch⟩:=hcut;have HOK:=Lib.hid hok;have HQ1:=Lib.hid hq;have HC1:=Lib.hid hch;have HR1:=Lib.hid hrd;clear hq hrd hch hok;go_wp2_with fail
       refine (odd_any2 rb fq (N+700) n (by omega) (by omega) (by omega) _ HR1.out).mono ?_;rintro e w4 ⟨⟨b,rfl,hb⟩,h1,h2⟩;have HB:=Lib.hid hb;have HQ4:=Lib.hid (QAt.chg HQ1.out h2 hrbq);have HR4:=Lib.hid (h1.mono (show N+700+1<=N+710 by omega));have HC4:=Lib.hid (Low.step HC1.out h2 (fun k hk=>by simp at hk;omega));clear h1 h2 HQ1 HR1 HC1 hb
       go_upto_if 91 with fail
       go_cut [] (fun wc=>∃ (x:Req) (vd vl:Value),QAt bq wc x vd vl∧x.data.length<=20∧x.lanes.length<=20∧(9000<=n->reqOk x=true)∧RdAt wc rb fq (N+900)∧Low rb bq W0 wc)
       case first =>
        refine l20Req_wrong rb bq fq N n W0 _ x vd vl b hN hrbq FLB HQ4 hd4 hl4 HOK HB HR4 HC4 _ _ (Lib.hid ?_)
        intros
        go_wp2_with fail
        go_meet
        case rel=>assumption
       case rest =>
        clear HB HOK hd4 hl4 HQ4 HR4 HC4;obtain ⟨x,vd,vl,hq,hd20,hl20,hok,hrd,hch⟩:=hcut;obtain ⟨va,vn,vc,rfl,_⟩:=OwnR.slice hq.d;obtain ⟨ua,un,uc,rfl,_⟩:=OwnR.slice hq.l;have c0:=hq.c0;have c1:=hq.c1;have c2:=hq.c2;have c3:=hq.c3;have c4:=hq.c4;have c5:=hq.c5;have c6:=hq.c6;have hz:w.heap.size<W0.heap.size:=by have:=HZ0.out;omega
        have nr:w.heap.size∉[rb]:=by simp;omega
        obtain ⟨q0,m0⟩:=HR0.out 0 (by omega);replace m0:=keep_cell_chg hch.chg m0 nr;have f0:=(World.frozen?_of_block (hch.chg.block w.heap.size hz nr)).trans (HF0.out 0);obtain ⟨q1,m1⟩:=HR0.out 1 (by omega);replace m1:=keep_cell_chg hch.chg m1 nr;have f1:=(World.frozen?_of_block (hch.chg.block w.heap.size hz nr)).trans (HF0.out 1);obtain ⟨q2,m2⟩:=HR0.out 2 (by omega);replace m2:=keep_cell_chg hch.chg m2 nr;have f2:=(World.frozen?_of_block (hch.chg.block w.heap.size hz nr)).trans (HF0.out 2);obtain ⟨q3,m3⟩:=HR0.out 3 (by omega);replace m3:=keep_cell_chg hch.chg m3 nr;have f3:=(World.frozen?_of_block (hch.chg.block w.heap.size hz nr)).trans (HF0.out 3);obtain ⟨q4,m4⟩:=HR0.out 4 (by omega);replace m4:=keep_cell_chg hch.chg m4 nr;have f4:=(World.frozen?_of_block (hch.chg.block w.heap.size hz nr)).trans (HF0.out 4);obtain ⟨q5,m5⟩:=HR0.out 5 (by omega);replace m5:=keep_cell_chg hch.chg m5 nr;have f5:=(World.frozen?_of_block (hch.chg.block w.heap.size hz nr)).trans (HF0.out 5);obtain ⟨q6,m6⟩:=HR0.out 6 (by omega);replace m6:=keep_cell_chg hch.chg m6 nr;have f6:=(World.frozen?_of_block (hch.chg.block w.heap.size hz nr)).trans (HF0.out 6);have HALL:Hid (∀ j,j<7->∃ u,wc.cell? ⟨w.heap.size,j,none⟩=some u):=Lib.hid (fun j hj=>by obtain ⟨u,hu⟩:=HR0.out j hj;exact ⟨u,keep_cell_chg hch.chg hu nr⟩);obtain ⟨fd,hs,hfd,_⟩:=intRow_reads hq.d;obtain ⟨fl,hsl,hfl,_⟩:=intRow_reads hq.l;have HS:=Lib.hid hs;have HFD:=Lib.hid hfd;have HSL:=Lib.hid hsl;have HFL:=Lib.hid hfl;have HRD:=Lib.hid hrd;have HCH:=Lib.hid hch;have HD2:=Lib.hid hd20;have HL2:=Lib.hid hl20;have HOK2:=Lib.hid hok;clear hq hd20 hl20 hok hrd hch hs hfd hsl hfl;go_wp2;have hc3:=putCells_chg (fp:=[w.heap.size]) (g:=w.heap.size) (List.mem_cons_self ..) [.int .i64 x.id,.int .i64 x.kind,.int .i64 x.addr,.int .i64 x.many,.bool x.wrap,.slice va vn vc,.slice ua un uc] wc 0;have hM:=put7 HALL.out [.int .i64 x.id,.int .i64 x.kind,.int .i64 x.addr,.int .i64 x.many,.bool x.wrap,.slice va vn vc,.slice ua un uc] rfl;have M0:=hM 0 (by show 0<7;decide);have M1:=hM 1 (by show 1<7;decide);have M2:=hM 2 (by show 2<7;decide);have M3:=hM 3 (by show 3<7;decide);have M4:=hM 4 (by show 4<7;decide);have M5:=hM 5 (by show 5<7;decide);have M6:=hM 6 (by show 6<7;decide);simp only [putCells,List.getElem_cons_zero,List.getElem_cons_succ,Nat.zero_add,Nat.reduceAdd] at hc3 M0 M1 M2 M3 M4 M5 M6;refine bodyPost_ret (v:=.agg #[.int .i64 x.id,.int .i64 x.kind,.int .i64 x.addr,.int .i64 x.many,.bool x.wrap,.slice va vn vc,.slice ua un uc]) (by simp [results,Try.results45,go_sem,M0,M1,M2,M3,M4,M5,M6]) rfl ?_;exact ⟨x,_,_,fd,fl,rfl,HS.out.chg intR_fits hc3 (fun b hb hb'=>by have:=HFD.out b hb;simp at hb';omega),HSL.out.chg intR_fits hc3 (fun b hb hb'=>by have:=HFL.out b hb;simp at hb';omega),HD2.out,HL2.out,HOK2.out,fun b hb=>(by rcases List.mem_append.1 hb with h|h;have:=HFD.out b h;omega;have:=HFL.out b h;omega),(HRD.out.chg hc3 (by simp;omega) (fun b hb hb'=>by have:=FL.out b hb;simp at hb';omega)).mono (by omega),(((B0.out.chg [rb]).trans' HCH.out.chg).trans hc3).drop (fun b hb hlt'=>by simp at hb ⊢;omega)⟩
end Go.Proofs.Ytmcjklicepaiaaa
