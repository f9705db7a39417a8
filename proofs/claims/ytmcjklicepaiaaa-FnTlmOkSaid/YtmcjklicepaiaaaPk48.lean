/-
 Texts of this claim laid together: DRsp Lift Cr.
-/
import Derived.Test.YtmcjklicepaiaaaPk12
import Derived.Deep.DeepCutAuto
import Derived.Deep.CutBlock
import Derived.WalkSmall
import Derived.Test.YtmcjklicepaiaaaRows
import Derived.WalkKit
import Derived.ProofKit
import Derived.OpenShut
set_option linter.unusedVariables false
set_option linter.unusedSimpArgs false
namespace Go.Proofs.Ytmcjklicepaiaaa
open Go.RowKit Go.ChangeShapes Go.WideShapes
structure RAt (bq:Nat) (w:World) (x:Rsp) (vd:Value):Prop where
 c0:w.cell? ⟨bq,0,none⟩=some (.int .i64 x.id)
 c1:w.cell? ⟨bq,1,none⟩=some (.int .i64 x.code)
 c2:w.cell? ⟨bq,2,none⟩=some vd
 fz:∀ j,w.frozen? ⟨bq,j,none⟩=false
 d:IntRow (bq+1) w vd x.data
theorem RAt.lt {bq:Nat} {w:World} {x:Rsp} {vd:Value} (h:RAt bq w x vd):bq<w.heap.size:=block_of_cell h.c0
theorem RAt.chg {bq rb:Nat} {w w':World} {x:Rsp} {vd:Value} (h:RAt bq w x vd) (hc:Chg [rb] w w') (hr:rb<bq):RAt bq w' x vd:=by
 have nb:bq∉[rb]:=by simp;omega
 exact ⟨keep_cell_chg hc h.c0 nb,keep_cell_chg hc h.c1 nb,keep_cell_chg hc h.c2 nb,fun j=>(World.frozen?_of_block (hc.block bq h.lt nb)).trans (h.fz j),OwnR.chg h.d hc (by omega)⟩
theorem RAt.below {bq:Nat} {w w':World} {x:Rsp} {vd:Value} (h:RAt bq w x vd) (hb:Below w.heap.size w w'):RAt bq w' x vd :=
 ⟨keep_cell hb h.c0,keep_cell hb h.c1,keep_cell hb h.c2,fun j=>(World.frozen?_of_block (hb.block bq h.lt)).trans (h.fz j),OwnR.below h.d hb⟩
theorem RAt.setId {bq:Nat} {w:World} {x:Rsp} {vd:Value} (h:RAt bq w x vd) (y:Int):RAt bq (w.setCell ⟨bq,0,none⟩ (.int .i64 y)) { x with id:=y } vd :=
 ⟨setSame _ h.c0,setOther _ (by decide) h.c1,setOther _ (by decide) h.c2,fun j=>(World.frozen?_setCell _ _ _ _).trans (h.fz j),OwnR.chg h.d (store_chg _) (by omega)⟩
theorem RAt.setCode {bq:Nat} {w:World} {x:Rsp} {vd:Value} (h:RAt bq w x vd) (y:Int):RAt bq (w.setCell ⟨bq,1,none⟩ (.int .i64 y)) { x with code:=y } vd :=
 ⟨setOther _ (by decide) h.c0,setSame _ h.c1,setOther _ (by decide) h.c2,fun j=>(World.frozen?_setCell _ _ _ _).trans (h.fz j),OwnR.chg h.d (store_chg _) (by omega)⟩
theorem RAt.setData {bq:Nat} {w:World} {x:Rsp} {vd vd':Value} {l:List Int} (h:RAt bq w x vd) (ho:IntRow (bq+1) w vd' l):RAt bq (w.setCell ⟨bq,2,none⟩ vd') { x with data:=l } vd' :=
 ⟨setOther _ (by decide) h.c0,setOther _ (by decide) h.c1,setSame _ h.c2,fun j=>(World.frozen?_setCell _ _ _ _).trans (h.fz j),OwnR.chg ho (store_chg _) (by omega)⟩
theorem RAt.pushD {bq:Nat} {w w1:World} {x:Rsp} {vd vd':Value} {ns:List Int} (h:RAt bq w x vd) (hg:w.grownBy w1 vd.ownBlock) (ho:IntRow (bq+1) w1 vd' (x.data++ns)):RAt bq (w1.setCell ⟨bq,2,none⟩ vd') { x with data:=x.data++ns } vd':=by
 have hne:some bq≠vd.ownBlock:=fun e=>by have:=(own_lt h.d e.symm).1;omega
 exact ⟨setOther _ (by decide) (hg.cell h.c0 hne),setOther _ (by decide) (hg.cell h.c1 hne),setSame _ (hg.cell h.c2 hne),
  fun j=>(World.frozen?_setCell _ _ _ _).trans ((World.frozen?_of_block (hg.block bq h.lt hne)).trans (h.fz j)),OwnR.chg ho (store_chg _) (by omega)⟩
set_option maxRecDepth 100000 in
set_option maxHeartbeats 3200000 in
theorem l20Rsp_any (rb:Nat) (fq:List Nat) (N n:Int) (hn:1<=n) (hn':n<=1000000) (hN:N<=990000000) (w:World) (h:RdAt w rb fq N) (fl:∀ b,b∈fq->b<w.heap.size) :
 Calls Try.prog 121 #[.pointer (some ⟨rb,0,none⟩),.int .i64 n] w fun e w'=>∃ (x:Rsp) (vd:Value) (fd:List Nat),e = .returned (.agg #[.int .i64 x.id,.int .i64 x.code,vd])∧SlR 1 intR w' x.data vd fd∧x.data.length<=5∧(∀ b,b∈fd->w.heap.size<=b)∧RdAt w' rb fq (N+1000)∧Chg [rb] w w':=by
 have hlt:=h.lt;have FL:=Lib.hid fl;obtain ⟨i0,ki,kz0,kz1,kz2⟩:=info_parts infoInt;obtain ⟨W0,hW⟩:∃ W,W=w.alloc (.cells #[.int .i64 0,.int .i64 0,.slice none 0 0] 62):=⟨_,rfl⟩;have hb0:Below w.heap.size w W0:=by rw [hW];exact below_alloc _ _
 have hz0:W0.heap.size=w.heap.size+1:=by rw [hW];simp
 have HR0:Hid (∀ j,j<3->∃ u,W0.cell? ⟨w.heap.size,j,none⟩=some u):=Lib.hid (fun j hj=>by rw [hW];exact ⟨_,alloc1_new w _ _ j (by simp [hj];rfl)⟩);have HF0:Hid (∀ j,W0.frozen? ⟨w.heap.size,j,none⟩=false):=Lib.hid (fun j=>by rw [hW];exact World.frozen?_alloc_at _ _ _ _ rfl);have H0:=Lib.hid ((h.below hb0).mono (show N<=N+0 by omega));have B0:=Lib.hid hb0;have HZ0:=Lib.hid hz0;clear h fl hb0 hz0;go_enter Try.func121,Try.ntmps121
 go_wp2_with fail
 rw [<- hW];clear hW;refine (pick_any rb fq (N+0) 2 (by omega) (by omega) (by omega) _ H0.out).mono ?_;rintro e w1 ⟨x1,rfl,lo1,hi1,h1,h2⟩;have H1:=Lib.hid (h1.mono (show N+0+1<=N+1 by omega));have C1:=Lib.hid (h2);clear h1 h2 H0;go_wp2_with fail
 refine (pick_any rb fq (N+1) 4 (by omega) (by omega) (by omega) _ H1.out).mono ?_;rintro e w2 ⟨x2,rfl,lo2,hi2,h1,h2⟩;have H2:=Lib.hid (h1.mono (show N+1+1<=N+2 by omega));have C2:=Lib.hid (C1.out.trans' h2);clear h1 h2 H1 C1;go_wp2_with fail
 obtain ⟨bq,hbq⟩:∃ b,b=w2.heap.size:=⟨_,rfl⟩;obtain ⟨W2,hW2⟩:∃ W,W=w2.alloc (.cells #[.int .i64 x1,.int .i64 (1+x2),.slice none 0 0] 62):=⟨_,rfl⟩;have hzb:W0.heap.size<=bq:=by rw [hbq];exact C2.out.size
 have hq:RAt bq W2 ⟨x1,1+x2,[]⟩ (.slice none 0 0):=by
  rw [hW2,hbq];exact ⟨alloc1_new w2 _ _ 0 rfl,alloc1_new w2 _ _ 1 rfl,alloc1_new w2 _ _ 2 rfl,fun j=>World.frozen?_alloc_at _ _ _ _ rfl,OwnR.nil _ _⟩
 have hrd:RdAt W2 rb fq (N+2):=by rw [hW2];exact H2.out.below (below_alloc _ _)
 have hch:Low rb bq W0 W2:=⟨hzb,by rw [hW2];exact C2.out.trans' ((below_alloc _ _).chg [rb])⟩;rw [<- hW2,<- hbq];have HQ1:=Lib.hid hq;have HR1:=Lib.hid hrd;have HC1:=Lib.hid hch;have hzw:w.heap.size<bq:=by have:=HZ0.out;omega
 have hrbq:rb<bq:=by omega
 have hfl:∀ b,b∈fq->b<bq:=fun b hb=>by have:=FL.out b hb;omega
 have FLB:=Lib.hid hfl;clear hW2 hbq hq hrd hch hzb hfl H2 C2;refine (pick_any rb fq (N+2) 5 (by omega) (by omega) (by omega) _ HR1.out).mono ?_;rintro e w3 ⟨x3,rfl,lo3,hi3,h1,h2⟩;have HQ3:=Lib.hid (RAt.chg HQ1.out h2 hrbq);have HR3:=Lib.hid (h1.mono (show N+2+1<=N+10 by omega));have HC3:=Lib.hid (Low.step HC1.out h2 (fun k hk=>by simp at hk;omega));clear h1 h2 HQ1 HR1 HC1;obtain ⟨k3,rfl⟩:=Int.eq_ofNat_of_zero_le lo3;go_wp2_with fail
 go_loopw [6] (fun i wr=>∃ (k:Nat) (y:Rsp) (vd:Value),k<=4∧i = .int .i64 k∧RAt bq wr y vd∧y.data.length+k<=4∧RdAt wr rb fq (N+10+40*(4 - (k:Int)))∧Low rb bq W0 wr) (fun i _=>(intOf i).toNat)
 case atStart=>exact ⟨k3,_,_,by omega,rfl,HQ3.out,by simp;omega,HR3.out.mono (by omega),HC3.out⟩
 case round =>
  obtain ⟨k,y,vd,hk,rfl,hq,hd,hrd,hch⟩:=hrel;have HQ:=Lib.hid hq;have HR:=Lib.hid hrd;have HC:=Lib.hid hch;have c2:=hq.c2;clear hq hrd hch HQ3 HR3 HC3;have nbq:bq∉[rb]:=by simp;omega
  by_cases hlt2:0<k
  ·have hlt3:0<(k:Int):=by omega
   go_wp2_with fail
   have hst:∀ F,F∈[FEq (.pointer (some ⟨bq,2,none⟩)),FEq (vd),FEq (.pointer (some ⟨rb,0,none⟩)),FInt (0) (299),FSl [rb] 1 (0) (299)]->Stable [rb] F:=by
    simp only [List.forall_mem_cons];exact ⟨stEq _ _,stEq _ _,stEq _ _,stInt _ _ _,stSl _ _ _ _,fun _ h=>by simp at h⟩
   refine wp_region_tail (by kernel_rfl) (fun i=>([[],[0],[],[2],[2,3],[0,1,2,3,4],[0,1,2,3,4,5],[0,1,2,3,4,5,6]]:List (List Nat)).getD i []) (facts [FEq (.pointer (some ⟨bq,2,none⟩)),FEq (vd),FEq (.pointer (some ⟨rb,0,none⟩)),FInt (0) (299),FSl [rb] 1 (0) (299)]) (fun m w'=>RdAt w' rb fq ((N+10+40*(4 - (k:Int)))+1*m)∧Chg [rb] wr w') 54 8 5 [some 19,some 20,some 21,some 22,some 23] _ rfl rfl (by decide) rfl rfl (by kernel_rfl) (by kernel_rfl) [] (by kernel_rfl) (fun g b hm v w h=>by simp at hm) ?h0 (all_lt (n:=5) ?hop) ?hend
   case h0=>exact ⟨(HR.out.below (Below.refl _ _).drew).mono (by omega),(Chg.refl _ _).drewN 1⟩
   case hop =>
    refine ⟨⟨⟨⟨⟨trivial,?_⟩,?_⟩,?_⟩,?_⟩,?_⟩
    ·refine Owes.mk _ rfl rfl (fun _ _ h=>by cases h) fun u m w' hm ⟨hI,hc⟩ hR=>⟨⟨(frm 54 [(5,.pointer (some ⟨bq,0,none⟩))]).toArray,[]⟩,rfl,fun d hd=>by cases hd;exact frm_lt (by decide),?_⟩;dsimp only [frm,List.foldl,List.replicate,List.set];have hm:m<8:=hm;clear hR;have k0:=keep_cell_chg hc c2 nbq;clear hst;go_wp2;exact ⟨rfl,_,rfl,rfl,⟨hI.mono (by omega),hc⟩,fun _ _ h=>h⟩
    ·refine Owes.mk _ rfl rfl (fun _ _ h=>by cases h) fun u m w' hm ⟨hI,hc⟩ hR=>⟨⟨(frm 54 [(19,u 0)]).toArray,[]⟩,rfl,fun d hd=>by cases hd;exact frm_lt (by decide),?_⟩;dsimp only [frm,List.foldl,List.replicate,List.set];have hm:m<8:=hm;have ev0:u 0=_:=hR 0 (by decide);clear hR;rw [ev0];have k0:=keep_cell_chg hc c2 nbq;clear hst;go_wp2;exact ⟨rfl,_,rfl,rfl,⟨hI.mono (by omega),hc⟩,fun _ _ h=>h⟩
    ·refine Owes.mk _ rfl rfl (fun _ _ h=>by cases h) fun u m w' hm ⟨hI,hc⟩ hR=>⟨⟨(frm 54 [(0,.pointer (some ⟨rb,0,none⟩))]).toArray,[]⟩,rfl,fun d hd=>by cases hd;exact frm_lt (by decide),?_⟩;dsimp only [frm,List.foldl,List.replicate,List.set];have hm:m<8:=hm;clear hR;go_wp2;exact ⟨rfl,_,rfl,rfl,⟨hI.mono (by omega),hc⟩,fun _ _ h=>h⟩
    ·refine Owes.mk _ rfl rfl (fun _ _ h=>by cases h) fun u m w' hm ⟨hI,hc⟩ hR=>⟨⟨(frm 54 [(21,u 2)]).toArray,[]⟩,rfl,fun d hd=>by cases hd;exact frm_lt (by decide),?_⟩;dsimp only [frm,List.foldl,List.replicate,List.set];have hm:m<8:=hm;have ea0:u 2=_:=hR 2 (by decide);clear hR;rw [ea0];go_wp2_with fail
     refine (pick_any rb fq ((N+10+40*(4 - (k:Int)))+1*m) 300 (by omega) (by omega) (by omega) _ hI).mono ?_;rintro e w2 ⟨x,rfl,lo,hi,g1,g2⟩;have hs:=facts_stable hst g2;have G1:=Lib.hid (g1.mono (show (N+10+40*(4 - (k:Int)))+1*(m:Int)+1<=(N+10+40*(4 - (k:Int)))+1*((m+1:Nat):Int) by omega));have G2:=Lib.hid (hc.trans' g2);have HS:=Lib.hid hs;clear g1 g2 hs hc hI hst;go_wp2;exact ⟨rfl,_,rfl,⟨x,by omega,by omega,rfl⟩,⟨G1.out,G2.out⟩,HS.out⟩
    ·refine Owes.mk _ rfl rfl (fun _ _ h=>by cases h) fun u m w' hm ⟨hI,hc⟩ hR=>⟨⟨(frm 54 [(22,u 3)]).toArray,[]⟩,rfl,fun d hd=>by cases hd;exact frm_lt (by decide),?_⟩;dsimp only [frm,List.foldl,List.replicate,List.set];have hm:m<8:=hm;obtain ⟨xp0,lp0,hp0,ep0⟩:=hR 3 (by decide);clear hR;rw [ep0];have hlt:=hI.lt;have nb:w'.heap.size∉[rb]:=by simp;omega
     have HL:=Lib.hid hlt;have HI:=Lib.hid hI;have HC:=Lib.hid hc;clear hI hc hlt;go_wp2;have ba:∀ A:Array Value,Below w'.heap.size w' (w'.alloc (.cells A 3)):=fun A=>below_alloc _ _;refine ⟨rfl,_,rfl,⟨_,rfl,nb,fun i hi=>?_⟩,⟨(HI.out.below (ba _)).mono (by omega),HC.out.trans' ((ba _).chg _)⟩,facts_stable hst ((ba _).chg _)⟩;have hx:i=0:=by omega
     rcases hx with rfl
     ·exact ⟨xp0,by omega,by omega,alloc1_new _ _ _ 0 rfl⟩
   case hend =>
    intro u w' ⟨hI,hc⟩ hR;simp only [setAll,List.set_cons_zero,List.set_cons_succ];have e1:u 1=_:=hR 1 (by decide);obtain ⟨b12,e12,n12,c12⟩:=hR 4 (by decide);obtain ⟨z,_,_,hz⟩:=c12 0 (by decide);rw [e1,e12];have HCELL:=Lib.hid hz;have HQw:=Lib.hid (RAt.chg HQ.out hc hrbq);have HRw:=Lib.hid hI;have HCw:=Lib.hid (HC.out.step hc (fun k hk=>by simp at hk;omega));clear hR hI hc hst e1 e12 c12 hz HQ HR HC c2;refine wpList_appendR (K:=1) (c:=IntC) (l:=y.data) (news:=[z]) (base:=bq+1) rfl _ _ 24 3 i0 (.int .i64 0) 8 IntC_len rfl Try.underlying24 ki kz0 kz1 kz2 rfl (by decide) (by decide) rfl rfl HQw.out.d rfl (fun j u hj=>by
     have hj0:j=0:=by have:=(List.getElem?_eq_some_iff.1 hj).1;simpa [IntC] using this
     subst hj0;simp [IntC] at hj;subst hj;exact HCELL.out) (by simp [IntC,Value.oneCell']) (by omega) (by omega) (by have:=HQw.out.lt;omega) ?_
    intro v' w2 hown hg;obtain ⟨va,vn,vc,rfl,_⟩:=OwnR.slice hown;have hne:some bq≠(vd).ownBlock:=fun e=>by have:=(own_lt HQw.out.d e.symm).1;omega
    have c2:=hg.cell HQw.out.c2 hne;have f2:w2.frozen? ⟨bq,2,none⟩=false:=(World.frozen?_of_block (hg.block bq HQw.out.lt hne)).trans (HQw.out.fz 2);have HQn:=Lib.hid (RAt.pushD HQw.out hg hown);have hbw:=grown_below HQw.out.d hg (by have:=HQw.out.lt;omega);have hsz:=hg.size;have HRn:=Lib.hid ((HRw.out.low hbw (by omega) (fun b hb=>by have:=FLB.out b hb;omega)).chg (store_chg _) (by simp;omega) (fun b hb hb'=>by have:=FLB.out b hb;simp at hb';omega):RdAt (w2.setCell ⟨bq,2,none⟩ (.slice va vn vc)) rb fq _);have HCn:=Lib.hid ((HCw.out.below (hbw.mono (by omega))).step (store_chg _) (fun k hk=>by simp at hk;omega):Low rb bq W0 (w2.setCell ⟨bq,2,none⟩ (.slice va vn vc)));clear hown hg hne hbw;go_wp2
    go_roundw
    case rel=>exact ⟨k - 1,_,_,by omega,by go_num,HQn.out,by simp;omega,HRn.out.mono (by omega),HCn.out⟩
    case measure=>simp [intOf];omega
  ·have hk0:k=0:=by omega
   subst hk0;go_wp2_with fail
   refine (odd_any rb fq (N+10+160) n (by omega) (by omega) (by omega) _ (HR.out.mono (by omega))).mono ?_;rintro e w4 ⟨⟨b,rfl⟩,h1,h2⟩;have HQ4:=Lib.hid (RAt.chg HQ.out h2 hrbq);have HR4:=Lib.hid (h1.mono (show N+10+160+1<=N+200 by omega));have HC4:=Lib.hid (Low.step HC.out h2 (fun k hk=>by simp at hk;omega));clear h1 h2 HQ HR HC c2;have HL:Hid (y.data.length<=5):=Lib.hid (by omega);clear hd hk
   go_upto_if 28 with fail
   go_cut [] (fun wc=>∃ (x:Rsp) (vd:Value),RAt bq wc x vd∧x.data.length<=5∧RdAt wc rb fq (N+900)∧Low rb bq W0 wc)
   case first =>
    cases b
    ·go_wp2_with fail
     go_meet
     case rel=>exact ⟨y,vd,HQ4.out,HL.out,HR4.out.mono (by omega),HC4.out⟩
    ·go_wp2_with fail
     refine (pick_any rb fq (N+200) 4 (by omega) (by omega) (by omega) _ HR4.out).mono ?_;rintro e w5 ⟨x5,rfl,lo5,hi5,h1,h2⟩;have HQ5:=Lib.hid (RAt.chg HQ4.out h2 hrbq);have HR5:=Lib.hid (h1.mono (show N+200+1<=N+201 by omega));have HC5:=Lib.hid (Low.step HC4.out h2 (fun k hk=>by simp at hk;omega));clear h1 h2 HQ4 HR4 HC4;have hx:x5=0∨x5=1∨x5=2∨x5=3:=by omega
     rcases hx with rfl|rfl|rfl|rfl
     ·go_wp2_with fail
      have ba:=below_alloc w5 (.cells #[.int .i64 (-1),.int .i64 2] 3);have nw:w5.heap.size∉[rb]:=by have:=HQ5.out.lt;simp;omega
      refine (pick_any rb fq (N+201) 2 (by omega) (by omega) (by omega) _ (HR5.out.below ba)).mono ?_;rintro e w6 ⟨x6,rfl,lo6,hi6,h1,h2⟩;have d0:=keep_cell_chg h2 (alloc1_new w5 _ _ 0 rfl) nw;have d1:=keep_cell_chg h2 (alloc1_new w5 _ _ 1 rfl) nw;have HQ6:=Lib.hid (RAt.chg (RAt.below HQ5.out ba) h2 hrbq);have HR6:=Lib.hid h1;have HC6:=Lib.hid (Low.step (Low.below HC5.out (ba.mono (Nat.le_of_lt HQ5.out.lt))) h2 (fun k hk=>by simp at hk;omega));have c:=HQ6.out.c0;have f:=HQ6.out.fz 0;clear h1 h2 ba HQ5 HR5 HC5;have hx:x6=0∨x6=1:=by omega
      rcases hx with rfl|rfl
      all_goals
       go_wp2_with fail
       go_meet
      all_goals
       case rel=>exact ⟨_,_,HQ6.out.setId _,HL.out,(HR6.out.chg (store_chg _) (by simp;omega) (fun b hb hb'=>by have:=FLB.out b hb;simp at hb';omega)).mono (by omega),HC6.out.step (store_chg _) (fun k hk=>by simp at hk;omega)⟩
     ·go_wp2_with fail
      have ba:=below_alloc w5 (.cells #[.int .i64 0,.int .i64 5] 3);have nw:w5.heap.size∉[rb]:=by have:=HQ5.out.lt;simp;omega
      refine (pick_any rb fq (N+201) 2 (by omega) (by omega) (by omega) _ (HR5.out.below ba)).mono ?_;rintro e w6 ⟨x6,rfl,lo6,hi6,h1,h2⟩;have d0:=keep_cell_chg h2 (alloc1_new w5 _ _ 0 rfl) nw;have d1:=keep_cell_chg h2 (alloc1_new w5 _ _ 1 rfl) nw;have HQ6:=Lib.hid (RAt.chg (RAt.below HQ5.out ba) h2 hrbq);have HR6:=Lib.hid h1;have HC6:=Lib.hid (Low.step (Low.below HC5.out (ba.mono (Nat.le_of_lt HQ5.out.lt))) h2 (fun k hk=>by simp at hk;omega));have c:=HQ6.out.c1;have f:=HQ6.out.fz 1;clear h1 h2 ba HQ5 HR5 HC5;have hx:x6=0∨x6=1:=by omega
      rcases hx with rfl|rfl
      all_goals
       go_wp2_with fail
       go_meet
      all_goals
       case rel=>exact ⟨_,_,HQ6.out.setCode _,HL.out,(HR6.out.chg (store_chg _) (by simp;omega) (fun b hb hb'=>by have:=FLB.out b hb;simp at hb';omega)).mono (by omega),HC6.out.step (store_chg _) (fun k hk=>by simp at hk;omega)⟩
     ·have ba:=below_alloc w5 (.cells #[.int .i64 (-1)] 3);have HQ6:=Lib.hid (RAt.below HQ5.out ba);have HR6:=Lib.hid (HR5.out.below ba);have HC6:=Lib.hid (Low.below HC5.out (ba.mono (Nat.le_of_lt HQ5.out.lt)));have HO:=Lib.hid (OwnR.lit (K:=1) (c:=IntC) (e:=3) (base:=bq+1) w5 #[.int .i64 (-1)] 1 [(-1)] IntC_len rfl rfl (by have:=HQ5.out.lt;omega) (by decide));have c:=HQ6.out.c2;have f:=HQ6.out.fz 2;clear ba HQ5 HR5 HC5;go_wp2_with fail
      go_meet
      case rel=>exact ⟨_,_,HQ6.out.setData HO.out,by simp,(HR6.out.chg (store_chg _) (by simp;omega) (fun b hb hb'=>by have:=FLB.out b hb;simp at hb';omega)).mono (by omega),HC6.out.step (store_chg _) (fun k hk=>by simp at hk;omega)⟩
     ·have ba:=below_alloc w5 (.cells #[.int .i64 1,.int .i64 2,.int .i64 3,.int .i64 4,.int .i64 5] 3);have HQ6:=Lib.hid (RAt.below HQ5.out ba);have HR6:=Lib.hid (HR5.out.below ba);have HC6:=Lib.hid (Low.below HC5.out (ba.mono (Nat.le_of_lt HQ5.out.lt)));have HO:=Lib.hid (OwnR.lit (K:=1) (c:=IntC) (e:=3) (base:=bq+1) w5 #[.int .i64 1,.int .i64 2,.int .i64 3,.int .i64 4,.int .i64 5] 5 [1,2,3,4,5] IntC_len rfl rfl (by have:=HQ5.out.lt;omega) (by decide));have c:=HQ6.out.c2;have f:=HQ6.out.fz 2;clear ba HQ5 HR5 HC5;go_wp2_with fail
      go_meet
      case rel=>exact ⟨_,_,HQ6.out.setData HO.out,by simp,(HR6.out.chg (store_chg _) (by simp;omega) (fun b hb hb'=>by have:=FLB.out b hb;simp at hb';omega)).mono (by omega),HC6.out.step (store_chg _) (fun k hk=>by simp at hk;omega)⟩
   case rest =>
    obtain ⟨x,vd,hq,hl,hrd,hch⟩:=hcut;obtain ⟨va,vn,vc,rfl,_⟩:=OwnR.slice hq.d;have c0:=hq.c0;have c1:=hq.c1;have c2:=hq.c2;have hz:w.heap.size<W0.heap.size:=by have:=HZ0.out;omega
    have nr:w.heap.size∉[rb]:=by simp;omega
    obtain ⟨q0,m0⟩:=HR0.out 0 (by omega);obtain ⟨q1,m1⟩:=HR0.out 1 (by omega);obtain ⟨q2,m2⟩:=HR0.out 2 (by omega);replace m0:=keep_cell_chg hch.chg m0 nr;replace m1:=keep_cell_chg hch.chg m1 nr;replace m2:=keep_cell_chg hch.chg m2 nr;have f0:=(World.frozen?_of_block (hch.chg.block w.heap.size hz nr)).trans (HF0.out 0);have f1:=(World.frozen?_of_block (hch.chg.block w.heap.size hz nr)).trans (HF0.out 1);have f2:=(World.frozen?_of_block (hch.chg.block w.heap.size hz nr)).trans (HF0.out 2);obtain ⟨fd,hs,hfd,_⟩:=intRow_reads hq.d;have HS:=Lib.hid hs;have HFD:=Lib.hid hfd;have HRD:=Lib.hid hrd;have HCH:=Lib.hid hch;have HL2:=Lib.hid hl;clear hq hl hrd hch hs hfd HQ4 HR4 HC4 HL;go_wp2;have hc3:Chg [w.heap.size] wc (((wc.setCell ⟨w.heap.size,0,none⟩ (.int .i64 x.id)).setCell ⟨w.heap.size,1,none⟩ (.int .i64 x.code)).setCell ⟨w.heap.size,2,none⟩ (.slice va vn vc)):=((store_chg _).trans' (store_chg _)).trans' (store_chg _);have M0:(((wc.setCell ⟨w.heap.size,0,none⟩ (.int .i64 x.id)).setCell ⟨w.heap.size,1,none⟩ (.int .i64 x.code)).setCell ⟨w.heap.size,2,none⟩ (.slice va vn vc)).cell? ⟨w.heap.size,0,none⟩=some (.int .i64 x.id):=setOther _ (by decide) (setOther _ (by decide) (setSame _ m0));have M1:(((wc.setCell ⟨w.heap.size,0,none⟩ (.int .i64 x.id)).setCell ⟨w.heap.size,1,none⟩ (.int .i64 x.code)).setCell ⟨w.heap.size,2,none⟩ (.slice va vn vc)).cell? ⟨w.heap.size,1,none⟩=some (.int .i64 x.code):=setOther _ (by decide) (setSame _ (setOther _ (by decide) m1));have M2:(((wc.setCell ⟨w.heap.size,0,none⟩ (.int .i64 x.id)).setCell ⟨w.heap.size,1,none⟩ (.int .i64 x.code)).setCell ⟨w.heap.size,2,none⟩ (.slice va vn vc)).cell? ⟨w.heap.size,2,none⟩=some (.slice va vn vc):=setSame _ (setOther _ (by decide) (setOther _ (by decide) m2));refine bodyPost_ret (v:=.agg #[.int .i64 x.id,.int .i64 x.code,.slice va vn vc]) (by simp [results,Try.results121,go_sem,M0,M1,M2]) rfl ?_;exact ⟨x,_,fd,rfl,HS.out.chg intR_fits hc3 (fun b hb hb'=>by have:=HFD.out b hb;simp at hb';omega),HL2.out,fun b hb=>by have:=HFD.out b hb;omega,(HRD.out.chg hc3 (by simp;omega) (fun b hb hb'=>by have:=FL.out b hb;simp at hb';omega)).mono (by omega),(((B0.out.chg [rb]).trans' HCH.out.chg).trans hc3).drop (fun b hb hlt'=>by simp at hb ⊢;omega)⟩
end Go.Proofs.Ytmcjklicepaiaaa
namespace Go.Proofs.Ytmcjklicepaiaaa
open Go.ChangeShapes Go.WideShapes Go.ChangeAt Go.RowKit
theorem own:ownKnob Try.prog.godebug=none:=by kernel_rfl
theorem laidOut:laidOutB Try.prog=true:=by kernel_rfl
end Go.Proofs.Ytmcjklicepaiaaa
namespace Go.Proofs.Ytmcjklicepaiaaa
open Go.RowKit
theorem crOk_any (w:World):Calls Try.prog 16 #[] w fun e w'=>e = .returned (.bool true)∧w=w':=by
 go_enter Try.func16,Try.ntmps16
 go_wp2_with (go_at_call 56;refine (iAdrOk_any _ _ _ _).mono ?_;rintro e w' ⟨rfl,rfl⟩)
 go_ret;exact ⟨ret_bool (by decide),rfl⟩
end Go.Proofs.Ytmcjklicepaiaaa
