/-
 Texts of this claim laid together: DAtm.
-/
import Derived.Test.YtmcjklicepaiaaaPk36
import Derived.Test.YtmcjklicepaiaaaPk46
import Derived.Deep.DeepCutAuto
import Derived.Deep.CutBlock
import Derived.WalkSmall
set_option linter.unusedVariables false
set_option linter.unusedSimpArgs false
namespace Go.Proofs.Ytmcjklicepaiaaa
open Go.RowKit Go.ChangeShapes Go.WideShapes
structure AtAt (bq B:Nat) (w:World) (m h:List Int) (v0:Value) (f0:List Nat) (b1 o1 n1 k1:Nat) (f1:List Nat):Prop where
 c0:w.cell? ⟨bq,0,none⟩=some v0
 c1:w.cell? ⟨bq,1,none⟩=some (.slice (some ⟨b1,o1,none⟩) n1 k1)
 fz:∀ j,w.frozen? ⟨bq,j,none⟩=false
 s0:SlR 1 intR w m v0 f0
 s1:SlR 1 intR w h (.slice (some ⟨b1,o1,none⟩) n1 k1) f1
 fr:Free f1 w
 d0:∀ b,b∈f0->B<=b∧b≠bq∧b∉f1
 d1:∀ b,b∈f1->B<=b∧b≠bq
 le:B<=bq
theorem AtAt.chg {bq B rb:Nat} {w w':World} {m h:List Int} {v0:Value} {f0 f1:List Nat} {b1 o1 n1 k1:Nat} (a:AtAt bq B w m h v0 f0 b1 o1 n1 k1 f1) (hc:Chg [rb] w w') (hr:rb<B):AtAt bq B w' m h v0 f0 b1 o1 n1 k1 f1:=by
 have:=a.le;have nb:bq∉[rb]:=by simp;omega
 have n0:∀ b,b∈f0->b∉[rb]:=fun b hb=>by have:=(a.d0 b hb).1;simp;omega
 have n1:∀ b,b∈f1->b∉[rb]:=fun b hb=>by have:=(a.d1 b hb).1;simp;omega
 exact ⟨keep_cell_chg hc a.c0 nb,keep_cell_chg hc a.c1 nb,fun j=>(World.frozen?_of_block (hc.block bq (block_of_cell a.c0) nb)).trans (a.fz j),a.s0.chg intR_fits hc n0,a.s1.chg intR_fits hc n1,a.fr.chg (a.s1.lt intR_fits) hc n1,a.d0,a.d1,a.le⟩
theorem AtAt.hold {bq B:Nat} {w:World} {m h:List Int} {v0:Value} {f0 f1:List Nat} {b1 o1 n1 k1:Nat} (a:AtAt bq B w m h v0 f0 b1 o1 n1 k1 f1) {i:Nat} (hi:i<n1) (x:Int) :
 AtAt bq B (w.setCell ⟨b1,o1+i,none⟩ (.int .i64 x)) m (h.set i x) v0 f0 b1 o1 n1 k1 f1∧Chg f1 w (w.setCell ⟨b1,o1+i,none⟩ (.int .i64 x)):=by
 obtain ⟨h1,h2,h3⟩:=IntS.set a.s1 rfl hi x;have nb:bq∉f1:=fun hm=>(a.d1 bq hm).2 rfl;exact ⟨⟨keep_cell_chg h2 a.c0 nb,keep_cell_chg h2 a.c1 nb,fun j=>(World.frozen?_of_block (h2.block bq (block_of_cell a.c0) nb)).trans (a.fz j),a.s0.chg intR_fits h2 (fun b hb=>(a.d0 b hb).2.2),h1,a.fr.setCell _ _,a.d0,a.d1,a.le⟩,h2⟩
theorem AtAt.mem {bq B:Nat} {w:World} {m h m':List Int} {v0 v0':Value} {f0 f1 f0':List Nat} {b1 o1 n1 k1:Nat} (a:AtAt bq B w m h v0 f0 b1 o1 n1 k1 f1) (s:SlR 1 intR w m' v0' f0') (d:∀ b,b∈f0'->B<=b∧b≠bq∧b∉f1) :
 AtAt bq B (w.setCell ⟨bq,0,none⟩ v0') m' h v0' f0' b1 o1 n1 k1 f1:=by
 have h2:Chg [bq] w (w.setCell ⟨bq,0,none⟩ v0'):=store_chg _;have n0:∀ b,b∈f0'->b∉[bq]:=fun b hb=>by have:=(d b hb).2.1;simpa using this
 have n1:∀ b,b∈f1->b∉[bq]:=fun b hb=>by have:=(a.d1 b hb).2;simpa using this
 exact ⟨setSame _ a.c0,setOther _ (by decide) a.c1,fun j=>(World.frozen?_setCell _ _ _ _).trans (a.fz j),s.chg intR_fits h2 n0,a.s1.chg intR_fits h2 n1,a.fr.setCell _ _,d,a.d1,a.le⟩
set_option maxRecDepth 100000 in
set_option maxHeartbeats 6400000 in
theorem l20Atm_any (rb:Nat) (fq:List Nat) (N n:Int) (hn:1<=n) (hn':n<=1000000) (hN:N<=900000000) (w:World) (h:RdAt w rb fq N) (fl:∀ b,b∈fq->b<w.heap.size) :
 Calls Try.prog 120 #[.pointer (some ⟨rb,0,none⟩),.int .i64 n] w fun e w'=>∃ (m h:List Int) (v0 v1:Value) (f0 f1:List Nat),e = .returned (.agg #[v0,v1])∧SlR 1 intR w' m v0 f0∧SlR 1 intR w' h v1 f1∧m.length<=65∧h.length<=6∧(∀ b,b∈f0++f1->w.heap.size<=b)∧RdAt w' rb fq (N+4000)∧Chg [rb] w w':=by
 have hlt:=h.lt;have FL:=Lib.hid fl;obtain ⟨W0,hW⟩:∃ W,W=w.alloc (.cells #[.slice none 0 0,.slice none 0 0] 68):=⟨_,rfl⟩;have hb0:Below w.heap.size w W0:=by rw [hW];exact below_alloc _ _
 have hz0:W0.heap.size=w.heap.size+1:=by rw [hW];simp
 have HR0:Hid (∀ j,j<2->∃ u,W0.cell? ⟨w.heap.size,j,none⟩=some u):=Lib.hid (fun j hj=>by rw [hW];exact ⟨_,alloc1_new w _ _ j (by simp [hj];rfl)⟩);have HF0:Hid (∀ j,W0.frozen? ⟨w.heap.size,j,none⟩=false):=Lib.hid (fun j=>by rw [hW];exact World.frozen?_alloc_at _ _ _ _ rfl);have H0:=Lib.hid ((h.below hb0).mono (show N<=N+0 by omega));have B0:=Lib.hid hb0;have HZ0:=Lib.hid hz0;clear h fl hb0;go_enter Try.func120,Try.ntmps120
 go_wp2_with fail
 rw [<- hW];clear hW;refine (sAtmNew_any _).mono ?_;rintro e w1 ⟨v0,f0,v1,f1,rfl,s0,s1,nw,b1⟩;obtain ⟨a0,n0,k0,rfl⟩:=s0.form;obtain ⟨a1,n1,k1,rfl,hn1,_,_,_,r1⟩:=IntS.opened s1;obtain rfl:6=n1:=hn1.out;obtain ⟨_,b1',o1,rfl,_,hbf,_⟩:=r1 0 (by decide);obtain ⟨bq,hbq⟩:∃ b,b=w1.heap.size:=⟨_,rfl⟩;obtain ⟨W2,hW2⟩:∃ W,W=w1.alloc (.cells #[.slice a0 n0 k0,.slice (some ⟨b1',o1,none⟩) 6 k1] 68):=⟨_,rfl⟩;have ba:Below w1.heap.size w1 W2:=by rw [hW2];exact below_alloc _ _
 have hdis:∀ b,b∈f0->b∉f1:=fun b h0 h1=>(List.nodup_append.1 nw.once).2.2 b h0 b h1 rfl;have hat:AtAt bq W0.heap.size W2 atmNew.mem atmNew.holds (.slice a0 n0 k0) f0 b1' o1 6 k1 f1:=by
  rw [hbq];exact ⟨by rw [hW2];exact alloc1_new w1 _ _ 0 rfl,by rw [hW2];exact alloc1_new w1 _ _ 1 rfl,fun j=>by rw [hW2];exact World.frozen?_alloc_at _ _ _ _ rfl,s0.below intR_fits ba,s1.below intR_fits ba,(show Free f1 w1 from fun b hb=>nw.free b (List.mem_append_right _ hb)).below (s1.lt intR_fits) ba,
   fun b hb=>⟨nw.lo b (List.mem_append_left _ hb),by have:=s0.lt intR_fits b hb;omega,hdis b hb⟩,fun b hb=>⟨nw.lo b (List.mem_append_right _ hb),by have:=s1.lt intR_fits b hb;omega⟩,b1.size⟩
 have HA:=Lib.hid hat
 have H2:=Lib.hid ((H0.out.below b1).below ba);have C2:=Lib.hid (show Low rb W0.heap.size W0 W2 from ⟨Nat.le_refl _,(b1.trans (ba.mono b1.size)).chg [rb]⟩);have FLB:Hid (∀ b,b∈fq->b<W0.heap.size):=Lib.hid (fun b hb=>by have:=FL.out b hb;omega);have FL2:Hid (∀ b,b∈fq->b<W2.heap.size):=Lib.hid (fun b hb=>by have:=FL.out b hb;have:=C2.out.chg.size;omega);have hbq0:W0.heap.size<=bq:=by rw [hbq];exact b1.size
 clear s0 s1 nw b1 r1 ba hdis hat H0 hn1;have hrb:rb<W0.heap.size:=by omega
 have nbq:bq∉[rb]:=by simp;omega
 have hbqw:bq<W2.heap.size:=block_of_cell HA.out.c0;go_wp2_with fail
 rw [<- hW2,<- hbq];clear hW2 hbq;refine (l20Mem_any rb fq _ 99999 (by omega) (by omega) (by omega) _ H2.out FL2.out).mono ?_;rintro e w3 ⟨mm,vm,fm,rfl,sm,hml,hfm,h3,c3⟩;have HA3:=Lib.hid (AtAt.chg HA.out c3 hrb);obtain ⟨am,nm,km,rfl⟩:=sm.form;have HA4:=Lib.hid (AtAt.mem HA3.out sm (fun b hb=>⟨by have:=hfm b hb;omega,by have:=hfm b hb;omega,fun hf=>by have:=hfm b hb;have:=HA.out.s1.lt intR_fits b hf;omega⟩));have H3:=Lib.hid (h3.chg (store_chg (g:=bq) (j:=0) (.slice am nm km)) (by simp;omega) (fun b hb hb'=>by have:=FLB.out b hb;simp at hb';omega));have C3:=Lib.hid ((C2.out.step c3 (fun k hk=>by simp at hk;omega)).step (store_chg (g:=bq) (j:=0) (.slice am nm km)) (fun k hk=>by simp at hk;omega));have HML:=Lib.hid hml;have q0:=HA3.out.c0;have z0:=HA3.out.fz 0;clear sm hml hfm h3 c3 HA H2 C2 hbqw;go_wp2_with fail
 go_loopw [6] (fun i wr=>∃ (k:Nat) (hh:List Int),k<=6∧i = .int .i64 k∧AtAt bq W0.heap.size wr mm hh (.slice am nm km) fm b1' o1 6 k1 f1∧hh.length=6∧RdAt wr rb fq (N+0+1000+20*k)∧Low rb W0.heap.size W0 wr) (fun i _=>6 - (intOf i).toNat)
 case atStart=>exact ⟨0,_,by omega,rfl,HA4.out,by simp [atmNew],H3.out.mono (by omega),C3.out⟩
 case round =>
  obtain ⟨k,hh,hk,rfl,ha,hl,hrd,hch⟩:=hrel;have HA:=Lib.hid ha;have HR:=Lib.hid hrd;have HC:=Lib.hid hch;have HL:=Lib.hid hl;have q1:=ha.c1;clear ha hrd hch hl HA3 HA4 H3 C3 q0 z0;by_cases hlt2:k<6
  ·have hlt3:(k:Int)<6:=by omega
   go_wp2_with fail
   have hst:∀ F,F∈[FEq (.pointer (some ⟨bq,1,none⟩)),FEq (.slice (some ⟨b1',o1,none⟩) 6 k1),FEq (.int .i64 (k:Int)),FSl [rb] 5 (-1) (32),FEq (.pointer (some ⟨rb,0,none⟩)),FInt (0) (4),FPtr [rb] (-1) (32),FInt (-1) (32)]->Stable [rb] F:=by
    simp only [List.forall_mem_cons];exact ⟨stEq _ _,stEq _ _,stEq _ _,stSl _ _ _ _,stEq _ _,stInt _ _ _,stPtr _ _ _,stInt _ _ _,fun _ h=>by simp at h⟩
   refine wp_region_tail (by kernel_rfl) (fun i=>([[],[0],[],[],[],[4],[3,4,5],[3,4,5,6],[0,1,2,3,4,5,6,7],[0,1,2,3,4,5,6,7,8]]:List (List Nat)).getD i []) (facts [FEq (.pointer (some ⟨bq,1,none⟩)),FEq (.slice (some ⟨b1',o1,none⟩) 6 k1),FEq (.int .i64 (k:Int)),FSl [rb] 5 (-1) (32),FEq (.pointer (some ⟨rb,0,none⟩)),FInt (0) (4),FPtr [rb] (-1) (32),FInt (-1) (32)]) (fun m w'=>RdAt w' rb fq ((N+0+1000+20*(k:Int))+1*m)∧Chg [rb] wr w') 52 10 8 [some 18,some 19,some 20,some 21,some 22,some 23,some 24,some 25] _ rfl rfl (by decide) rfl rfl (by kernel_rfl) (by kernel_rfl) [] (by kernel_rfl) (fun g b hm v w h=>by simp at hm) ?h0 (all_lt (n:=8) ?hop) ?hend
   case h0=>exact ⟨(HR.out.below (Below.refl _ _).drew).mono (by omega),(Chg.refl _ _).drewN 1⟩
   case hop =>
    refine ⟨⟨⟨⟨⟨⟨⟨⟨trivial,?_⟩,?_⟩,?_⟩,?_⟩,?_⟩,?_⟩,?_⟩,?_⟩
    ·refine Owes.mk _ rfl rfl (fun _ _ h=>by cases h) fun u m w' hm ⟨hI,hc⟩ hR=>⟨⟨(frm 52 [(5,.pointer (some ⟨bq,0,none⟩))]).toArray,[]⟩,rfl,fun d hd=>by cases hd;exact frm_lt (by decide),?_⟩;dsimp only [frm,List.foldl,List.replicate,List.set];have hm:m<10:=hm;clear hR;have k0:=keep_cell_chg hc q1 nbq;clear hst;go_wp2;exact ⟨rfl,_,rfl,rfl,⟨hI.mono (by omega),hc⟩,fun _ _ h=>h⟩
    ·refine Owes.mk _ rfl rfl (fun _ _ h=>by cases h) fun u m w' hm ⟨hI,hc⟩ hR=>⟨⟨(frm 52 [(18,u 0)]).toArray,[]⟩,rfl,fun d hd=>by cases hd;exact frm_lt (by decide),?_⟩;dsimp only [frm,List.foldl,List.replicate,List.set];have hm:m<10:=hm;have ev0:u 0=_:=hR 0 (by decide);clear hR;rw [ev0];have k0:=keep_cell_chg hc q1 nbq;clear hst;go_wp2;exact ⟨rfl,_,rfl,rfl,⟨hI.mono (by omega),hc⟩,fun _ _ h=>h⟩
    ·refine Owes.mk _ rfl rfl (fun _ _ h=>by cases h) fun u m w' hm ⟨hI,hc⟩ hR=>⟨⟨(frm 52 [(6,.int .i64 (k:Int))]).toArray,[]⟩,rfl,fun d hd=>by cases hd;exact frm_lt (by decide),?_⟩;dsimp only [frm,List.foldl,List.replicate,List.set];have hm:m<10:=hm;clear hR;go_wp2;exact ⟨rfl,_,rfl,rfl,⟨hI.mono (by omega),hc⟩,fun _ _ h=>h⟩
    ·refine Owes.mk _ rfl rfl (fun _ _ h=>by cases h) fun u m w' hm ⟨hI,hc⟩ hR=>⟨⟨(frm 52 []).toArray,[]⟩,rfl,fun d hd=>by cases hd;exact frm_lt (by decide),?_⟩;dsimp only [frm,List.foldl,List.replicate,List.set];have hm:m<10:=hm;clear hR;have hlt:=hI.lt;have nb:w'.heap.size∉[rb]:=by simp;omega
     have HL:=Lib.hid hlt;have HI:=Lib.hid hI;have HC:=Lib.hid hc;clear hI hc hlt;go_wp2;have ba:∀ A:Array Value,Below w'.heap.size w' (w'.alloc (.cells A 3)):=fun A=>below_alloc _ _;refine ⟨rfl,_,rfl,⟨_,rfl,nb,fun i hi=>?_⟩,⟨(HI.out.below (ba _)).mono (by omega),HC.out.trans' ((ba _).chg _)⟩,facts_stable hst ((ba _).chg _)⟩;have hx:i=0∨i=1∨i=2∨i=3∨i=4:=by omega
     rcases hx with rfl|rfl|rfl|rfl|rfl
     ·exact ⟨(-1),by omega,by omega,alloc1_new _ _ _ 0 rfl⟩
     ·exact ⟨(0),by omega,by omega,alloc1_new _ _ _ 1 rfl⟩
     ·exact ⟨(1),by omega,by omega,alloc1_new _ _ _ 2 rfl⟩
     ·exact ⟨(16),by omega,by omega,alloc1_new _ _ _ 3 rfl⟩
     ·exact ⟨(32),by omega,by omega,alloc1_new _ _ _ 4 rfl⟩
    ·refine Owes.mk _ rfl rfl (fun _ _ h=>by cases h) fun u m w' hm ⟨hI,hc⟩ hR=>⟨⟨(frm 52 [(0,.pointer (some ⟨rb,0,none⟩))]).toArray,[]⟩,rfl,fun d hd=>by cases hd;exact frm_lt (by decide),?_⟩;dsimp only [frm,List.foldl,List.replicate,List.set];have hm:m<10:=hm;clear hR;go_wp2;exact ⟨rfl,_,rfl,rfl,⟨hI.mono (by omega),hc⟩,fun _ _ h=>h⟩
    ·refine Owes.mk _ rfl rfl (fun _ _ h=>by cases h) fun u m w' hm ⟨hI,hc⟩ hR=>⟨⟨(frm 52 [(22,u 4)]).toArray,[]⟩,rfl,fun d hd=>by cases hd;exact frm_lt (by decide),?_⟩;dsimp only [frm,List.foldl,List.replicate,List.set];have hm:m<10:=hm;have ea0:u 4=_:=hR 4 (by decide);clear hR;rw [ea0];go_wp2_with fail
     refine (pick_any rb fq ((N+0+1000+20*(k:Int))+1*m) 5 (by omega) (by omega) (by omega) _ hI).mono ?_;rintro e w2 ⟨x,rfl,lo,hi,g1,g2⟩;have hs:=facts_stable hst g2;have G1:=Lib.hid (g1.mono (show (N+0+1000+20*(k:Int))+1*(m:Int)+1<=(N+0+1000+20*(k:Int))+1*((m+1:Nat):Int) by omega));have G2:=Lib.hid (hc.trans' g2);have HS:=Lib.hid hs;clear g1 g2 hs hc hI hst;go_wp2;exact ⟨rfl,_,rfl,⟨x,by omega,by omega,rfl⟩,⟨G1.out,G2.out⟩,HS.out⟩
    ·refine Owes.mk _ rfl rfl (fun _ _ h=>by cases h) fun u m w' hm ⟨hI,hc⟩ hR=>⟨⟨(frm 52 [(21,u 3),(23,u 5)]).toArray,[]⟩,rfl,fun d hd=>by cases hd;exact frm_lt (by decide),?_⟩;dsimp only [frm,List.foldl,List.replicate,List.set];have hm:m<10:=hm;obtain ⟨bs,es,ns,cs⟩:=hR 3 (by decide);obtain ⟨xi,li,hi,ei⟩:=hR 5 (by decide);obtain ⟨q,rfl⟩:=Int.eq_ofNat_of_zero_le li;obtain ⟨y,hy1,hy2,hy⟩:=cs q (by omega);have qlt:(q:Int)<5:=by omega
     clear hR;rw [es,ei];clear cs;go_wp2;exact ⟨rfl,_,rfl,⟨_,_,y,rfl,ns,hy1,hy2,by simpa using hy⟩,⟨hI.mono (by omega),hc⟩,fun _ _ h=>h⟩
    ·refine Owes.mk _ rfl rfl (fun _ _ h=>by cases h) fun u m w' hm ⟨hI,hc⟩ hR=>⟨⟨(frm 52 [(24,u 6)]).toArray,[]⟩,rfl,fun d hd=>by cases hd;exact frm_lt (by decide),?_⟩;dsimp only [frm,List.foldl,List.replicate,List.set];have hm:m<10:=hm;obtain ⟨bs,is,xs,es,ns,ls,hs,cs⟩:=hR 6 (by decide);clear hR;rw [es];go_wp2;exact ⟨rfl,_,rfl,⟨xs,by omega,by omega,rfl⟩,⟨hI.mono (by omega),hc⟩,fun _ _ h=>h⟩
   case hend =>
    intro u w' ⟨hI,hc⟩ hR;simp only [setAll,List.set_cons_zero,List.set_cons_succ];have e1:u 1=_:=hR 1 (by decide);have e2:u 2=_:=hR 2 (by decide);obtain ⟨q7,lq7,hq7,e7⟩:=hR 7 (by decide);rw [e1,e2,e7];have HAw:=Lib.hid (AtAt.chg HA.out hc hrb);obtain ⟨_,_,_,he,_,_,_,_,r⟩:=IntS.opened HAw.out.s1;simp only [Value.slice.injEq] at he;obtain ⟨rfl,rfl,rfl⟩:=he;obtain ⟨_,b9,o9,e9,_,hb9,cw⟩:=r k hlt2;simp only [Option.some.injEq,Addr.mk.injEq,and_true] at e9;obtain ⟨rfl,rfl⟩:=e9;have fw:w'.frozen? ⟨b1',o1+k,none⟩=false:=HAw.out.fr _ hb9 _;obtain ⟨hn1,hn2⟩:=HAw.out.hold hlt2 q7;have HAn:=Lib.hid hn1;have HRn:=Lib.hid (hI.chg hn2 (fun hm=>by have:=(HAw.out.d1 _ hm).1;omega) (fun b hb hb'=>by have:=FLB.out b hb;have:=(HAw.out.d1 _ hb').1;omega));have HCn:=Lib.hid ((HC.out.step hc (fun k hk=>by simp at hk;omega)).step hn2 (fun k hk=>.inr (HAw.out.d1 _ hk).1));obtain ⟨cy,hcy⟩:∃ c,c=Value.int .i64 (hh[k]'(by rw [HL.out];exact hlt2)):=⟨_,rfl⟩;rw [<- hcy] at cw;clear hR hI hc hst e1 e2 e7 HA HR HC q1 r hn1 hn2 hcy HAw;go_wp2
    go_roundw
    case rel=>exact ⟨k+1,_,by omega,by go_num,HAn.out,by rw [List.length_set];exact HL.out,HRn.out.mono (by omega),HCn.out⟩
    case measure=>simp [intOf];omega
  ·have hk6:¬ (k:Int)<6:=by omega
   go_wp2_with fail
   refine (odd_any rb fq (N+2000) n (by omega) (by omega) (by omega) _ (HR.out.mono (by omega))).mono ?_;rintro e w4 ⟨⟨b,rfl⟩,h1,h2⟩;have HA4:=Lib.hid (AtAt.chg HA.out h2 hrb);have H4:=Lib.hid h1;have C4:=Lib.hid (Low.step HC.out h2 (fun k hk=>by simp at hk;omega));clear h1 h2 HA HR HC q1
   go_upto_if 29 with fail
   go_cut [] (fun wc=>∃ (m h:List Int) (v0 v1:Value) (f0 f1:List Nat),wc.cell? ⟨bq,0,none⟩=some v0∧wc.cell? ⟨bq,1,none⟩=some v1∧SlR 1 intR wc m v0 f0∧SlR 1 intR wc h v1 f1∧m.length<=65∧h.length<=6∧(∀ b,b∈f0++f1->W0.heap.size<=b)∧RdAt wc rb fq (N+4000)∧Low rb W0.heap.size W0 wc)
   case first =>
    have HD:Hid (∀ b,b∈fm++f1->W0.heap.size<=b):=Lib.hid (fun b hb=>by rcases List.mem_append.1 hb with h|h;exact (HA4.out.d0 b h).1;exact (HA4.out.d1 b h).1);cases b
    ·go_wp2_with fail
     go_meet
     case rel=>exact ⟨mm,hh,_,_,fm,f1,HA4.out.c0,HA4.out.c1,HA4.out.s0,HA4.out.s1,HML.out,by rw [HL.out];decide,HD.out,H4.out.mono (by omega),C4.out⟩
    ·go_wp2_with fail
     refine (pick_any rb fq (N+2000+1) 3 (by omega) (by omega) (by omega) _ H4.out).mono ?_;rintro e w5 ⟨x5,rfl,lo5,hi5,h1,h2⟩;have HA5:=Lib.hid (AtAt.chg HA4.out h2 hrb);have H5:=Lib.hid (h1.mono (show N+2000+1+1<=N+2002 by omega));have C5:=Lib.hid (Low.step C4.out h2 (fun k hk=>by simp at hk;omega));clear h1 h2 HA4 H4 C4;have q0:=HA5.out.c0;have q1:=HA5.out.c1;have z0:=HA5.out.fz 0;have z1:=HA5.out.fz 1;have hx:x5=0∨x5=1∨x5=2:=by omega
     rcases hx with rfl|rfl|rfl
     ·have FL5:Hid (∀ b,b∈fq->b<w5.heap.size):=Lib.hid (fun b hb=>by have:=FLB.out b hb;have:=C5.out.chg.size;omega);have hbw:=block_of_cell q0;go_wp2_with fail
      refine (l20Mem_any rb fq _ 1 (by omega) (by omega) (by omega) _ H5.out FL5.out).mono ?_;rintro e w6 ⟨m6,v6,f6,rfl,s6,hml,hfm,h3,c3⟩;have HA6:=Lib.hid (AtAt.chg HA5.out c3 hrb);obtain ⟨a6,n6,k6,rfl⟩:=s6.form;have HA7:=Lib.hid (AtAt.mem HA6.out s6 (fun b hb=>⟨by have:=hfm b hb;omega,by have:=hfm b hb;omega,fun hf=>by have:=hfm b hb;have:=HA5.out.s1.lt intR_fits b hf;omega⟩));have H7:=Lib.hid (h3.chg (store_chg (g:=bq) (j:=0) (.slice a6 n6 k6)) (by simp;omega) (fun b hb hb'=>by have:=FLB.out b hb;simp at hb';omega));have C7:=Lib.hid ((C5.out.step c3 (fun k hk=>by simp at hk;omega)).step (store_chg (g:=bq) (j:=0) (.slice a6 n6 k6)) (fun k hk=>by simp at hk;omega));have HM7:=Lib.hid hml;replace q0:=HA6.out.c0;replace z0:=HA6.out.fz 0;clear s6 hml hfm h3 c3 q1 z1 HA5 H5 C5 hbw;go_wp2_with fail
      go_meet
      case rel=>exact ⟨m6,hh,_,_,f6,f1,HA7.out.c0,HA7.out.c1,HA7.out.s0,HA7.out.s1,HM7.out,by rw [HL.out];decide,fun b hb=>(by rcases List.mem_append.1 hb with h|h;exact (HA7.out.d0 b h).1;exact (HA7.out.d1 b h).1),H7.out.mono (by omega),C7.out⟩
     ·obtain ⟨g1,d1,hg1⟩:=SlR.drop HA5.out.s1 1 (by decide);have D1:=Lib.hid d1;have HG1:=Lib.hid hg1;clear d1 hg1;go_wp2_with fail
      go_meet
      case rel=>exact ⟨mm,hh.drop 1,_,_,fm,g1,setOther _ (by decide) q0,setSame _ q1,HA5.out.s0.chg intR_fits (store_chg _) (fun b hb hb'=>by have:=(HA5.out.d0 b hb).2.1;simp at hb';omega),D1.out.chg intR_fits (store_chg _) (fun b hb hb'=>by have:=(HA5.out.d1 b (HG1.out b hb)).2;simp at hb';omega),HML.out,by rw [List.length_drop,HL.out];decide,
       fun b hb=>(by rcases List.mem_append.1 hb with h|h;exact (HA5.out.d0 b h).1;exact (HA5.out.d1 b (HG1.out b h)).1),(H5.out.chg (store_chg _) (by simp;omega) (fun b hb hb'=>by have:=FLB.out b hb;simp at hb';omega)).mono (by omega),C5.out.step (store_chg _) (fun k hk=>by simp at hk;omega)⟩
     ·go_wp2_with fail
      have hst:∀ F,F∈[FEq (.pointer (some ⟨bq,1,none⟩)),FEq (.slice (some ⟨b1',o1,none⟩) 6 k1),FSl [rb] 2 (-2) (64),FEq (.pointer (some ⟨rb,0,none⟩)),FInt (0) (1),FPtr [rb] (-2) (64),FInt (-2) (64)]->Stable [rb] F:=by
       simp only [List.forall_mem_cons];exact ⟨stEq _ _,stEq _ _,stSl _ _ _ _,stEq _ _,stInt _ _ _,stPtr _ _ _,stInt _ _ _,fun _ h=>by simp at h⟩
      refine wp_region_tail (by kernel_rfl) (fun i=>([[],[0],[],[],[3],[2,3,4],[2,3,4,5],[0,1,2,3,4,5,6],[0,1,2,3,4,5,6,7]]:List (List Nat)).getD i []) (facts [FEq (.pointer (some ⟨bq,1,none⟩)),FEq (.slice (some ⟨b1',o1,none⟩) 6 k1),FSl [rb] 2 (-2) (64),FEq (.pointer (some ⟨rb,0,none⟩)),FInt (0) (1),FPtr [rb] (-2) (64),FInt (-2) (64)]) (fun m w'=>RdAt w' rb fq ((N+2002)+1*m)∧Chg [rb] w5 w') 52 9 7 [some 32,some 33,some 34,some 35,some 36,some 37,some 38] _ rfl rfl (by decide) rfl rfl (by kernel_rfl) (by kernel_rfl) [] (by kernel_rfl) (fun g b hm v w h=>by simp at hm) ?h0 (all_lt (n:=7) ?hop) ?hend
      case h0=>exact ⟨(H5.out.below (Below.refl _ _).drew).mono (by omega),(Chg.refl _ _).drewN 1⟩
      case hop =>
       refine ⟨⟨⟨⟨⟨⟨⟨trivial,?_⟩,?_⟩,?_⟩,?_⟩,?_⟩,?_⟩,?_⟩
       ·refine Owes.mk _ rfl rfl (fun _ _ h=>by cases h) fun u m w' hm ⟨hI,hc⟩ hR=>⟨⟨(frm 52 [(5,.pointer (some ⟨bq,0,none⟩))]).toArray,[]⟩,rfl,fun d hd=>by cases hd;exact frm_lt (by decide),?_⟩;dsimp only [frm,List.foldl,List.replicate,List.set];have hm:m<9:=hm;clear hR;have k0:=keep_cell_chg hc q1 nbq;clear hst;go_wp2;exact ⟨rfl,_,rfl,rfl,⟨hI.mono (by omega),hc⟩,fun _ _ h=>h⟩
       ·refine Owes.mk _ rfl rfl (fun _ _ h=>by cases h) fun u m w' hm ⟨hI,hc⟩ hR=>⟨⟨(frm 52 [(32,u 0)]).toArray,[]⟩,rfl,fun d hd=>by cases hd;exact frm_lt (by decide),?_⟩;dsimp only [frm,List.foldl,List.replicate,List.set];have hm:m<9:=hm;have ev0:u 0=_:=hR 0 (by decide);clear hR;rw [ev0];have k0:=keep_cell_chg hc q1 nbq;clear hst;go_wp2;exact ⟨rfl,_,rfl,rfl,⟨hI.mono (by omega),hc⟩,fun _ _ h=>h⟩
       ·refine Owes.mk _ rfl rfl (fun _ _ h=>by cases h) fun u m w' hm ⟨hI,hc⟩ hR=>⟨⟨(frm 52 []).toArray,[]⟩,rfl,fun d hd=>by cases hd;exact frm_lt (by decide),?_⟩;dsimp only [frm,List.foldl,List.replicate,List.set];have hm:m<9:=hm;clear hR;have hlt:=hI.lt;have nb:w'.heap.size∉[rb]:=by simp;omega
        have HL:=Lib.hid hlt;have HI:=Lib.hid hI;have HC:=Lib.hid hc;clear hI hc hlt;go_wp2;have ba:∀ A:Array Value,Below w'.heap.size w' (w'.alloc (.cells A 3)):=fun A=>below_alloc _ _;refine ⟨rfl,_,rfl,⟨_,rfl,nb,fun i hi=>?_⟩,⟨(HI.out.below (ba _)).mono (by omega),HC.out.trans' ((ba _).chg _)⟩,facts_stable hst ((ba _).chg _)⟩;have hx:i=0∨i=1:=by omega
        rcases hx with rfl|rfl
        ·exact ⟨(-2),by omega,by omega,alloc1_new _ _ _ 0 rfl⟩
        ·exact ⟨(64),by omega,by omega,alloc1_new _ _ _ 1 rfl⟩
       ·refine Owes.mk _ rfl rfl (fun _ _ h=>by cases h) fun u m w' hm ⟨hI,hc⟩ hR=>⟨⟨(frm 52 [(0,.pointer (some ⟨rb,0,none⟩))]).toArray,[]⟩,rfl,fun d hd=>by cases hd;exact frm_lt (by decide),?_⟩;dsimp only [frm,List.foldl,List.replicate,List.set];have hm:m<9:=hm;clear hR;go_wp2;exact ⟨rfl,_,rfl,rfl,⟨hI.mono (by omega),hc⟩,fun _ _ h=>h⟩
       ·refine Owes.mk _ rfl rfl (fun _ _ h=>by cases h) fun u m w' hm ⟨hI,hc⟩ hR=>⟨⟨(frm 52 [(35,u 3)]).toArray,[]⟩,rfl,fun d hd=>by cases hd;exact frm_lt (by decide),?_⟩;dsimp only [frm,List.foldl,List.replicate,List.set];have hm:m<9:=hm;have ea0:u 3=_:=hR 3 (by decide);clear hR;rw [ea0];go_wp2_with fail
        refine (pick_any rb fq ((N+2002)+1*m) 2 (by omega) (by omega) (by omega) _ hI).mono ?_;rintro e w2 ⟨x,rfl,lo,hi,g1,g2⟩;have hs:=facts_stable hst g2;have G1:=Lib.hid (g1.mono (show (N+2002)+1*(m:Int)+1<=(N+2002)+1*((m+1:Nat):Int) by omega));have G2:=Lib.hid (hc.trans' g2);have HS:=Lib.hid hs;clear g1 g2 hs hc hI hst;go_wp2;exact ⟨rfl,_,rfl,⟨x,by omega,by omega,rfl⟩,⟨G1.out,G2.out⟩,HS.out⟩
       ·refine Owes.mk _ rfl rfl (fun _ _ h=>by cases h) fun u m w' hm ⟨hI,hc⟩ hR=>⟨⟨(frm 52 [(34,u 2),(36,u 4)]).toArray,[]⟩,rfl,fun d hd=>by cases hd;exact frm_lt (by decide),?_⟩;dsimp only [frm,List.foldl,List.replicate,List.set];have hm:m<9:=hm;obtain ⟨bs,es,ns,cs⟩:=hR 2 (by decide);obtain ⟨xi,li,hi,ei⟩:=hR 4 (by decide);obtain ⟨q,rfl⟩:=Int.eq_ofNat_of_zero_le li;obtain ⟨y,hy1,hy2,hy⟩:=cs q (by omega);have qlt:(q:Int)<2:=by omega
        clear hR;rw [es,ei];clear cs;go_wp2;exact ⟨rfl,_,rfl,⟨_,_,y,rfl,ns,hy1,hy2,by simpa using hy⟩,⟨hI.mono (by omega),hc⟩,fun _ _ h=>h⟩
       ·refine Owes.mk _ rfl rfl (fun _ _ h=>by cases h) fun u m w' hm ⟨hI,hc⟩ hR=>⟨⟨(frm 52 [(37,u 5)]).toArray,[]⟩,rfl,fun d hd=>by cases hd;exact frm_lt (by decide),?_⟩;dsimp only [frm,List.foldl,List.replicate,List.set];have hm:m<9:=hm;obtain ⟨bs,is,xs,es,ns,ls,hs,cs⟩:=hR 5 (by decide);clear hR;rw [es];go_wp2;exact ⟨rfl,_,rfl,⟨xs,by omega,by omega,rfl⟩,⟨hI.mono (by omega),hc⟩,fun _ _ h=>h⟩
      case hend =>
       intro u w' ⟨hI,hc⟩ hR;simp only [setAll,List.set_cons_zero,List.set_cons_succ];have e1:u 1=_:=hR 1 (by decide);obtain ⟨q7,lq7,hq7,e7⟩:=hR 6 (by decide);rw [e1,e7];have HAw:=Lib.hid (AtAt.chg HA5.out hc hrb);obtain ⟨_,_,_,he,_,_,_,_,r⟩:=IntS.opened HAw.out.s1;simp only [Value.slice.injEq] at he;obtain ⟨rfl,rfl,rfl⟩:=he;obtain ⟨_,b9,o9,e9,_,hb9,cw⟩:=r 0 (by decide);simp only [Option.some.injEq,Addr.mk.injEq,and_true] at e9;obtain ⟨rfl,rfl⟩:=e9;have fw:w'.frozen? ⟨b1',o1+0,none⟩=false:=HAw.out.fr _ hb9 _;obtain ⟨hn1,hn2⟩:=HAw.out.hold (i:=0) (by decide) q7;have HAn:=Lib.hid hn1;have HRn:=Lib.hid (hI.chg hn2 (fun hm=>by have:=(HAw.out.d1 _ hm).1;omega) (fun b hb hb'=>by have:=FLB.out b hb;have:=(HAw.out.d1 _ hb').1;omega));have HCn:=Lib.hid ((C5.out.step hc (fun k hk=>by simp at hk;omega)).step hn2 (fun k hk=>.inr (HAw.out.d1 _ hk).1));obtain ⟨cy,hcy⟩:∃ c,c=Value.int .i64 (hh[0]'(by rw [HL.out];decide)):=⟨_,rfl⟩;rw [<- hcy] at cw;rw [Nat.add_zero] at cw fw HAn HRn HCn;clear hR hI hc hst e1 e7 HA5 H5 C5 q0 q1 z0 z1 r hn1 hn2 hcy HAw;go_wp2_with fail
       go_meet
       case rel=>exact ⟨mm,_,_,_,fm,f1,HAn.out.c0,HAn.out.c1,HAn.out.s0,HAn.out.s1,HML.out,by rw [List.length_set,HL.out];decide,HD.out,HRn.out.mono (by omega),HCn.out⟩
   case rest =>
    clear HA4 H4 C4;obtain ⟨m,h,v0,v1,f0,f1,c0,c1,s0,s1,hml,hhl,hd,hrd,hch⟩:=hcut;obtain ⟨a0,n0,k0,rfl⟩:=s0.form;obtain ⟨a1,n1,k1,rfl⟩:=s1.form;have hz:w.heap.size<W0.heap.size:=by have:=HZ0.out;omega
    have nr:w.heap.size∉[rb]:=by simp;omega
    obtain ⟨p0,m0⟩:=HR0.out 0 (by omega);obtain ⟨p1,m1⟩:=HR0.out 1 (by omega);replace m0:=keep_cell_chg hch.chg m0 nr;replace m1:=keep_cell_chg hch.chg m1 nr;have g0:=(World.frozen?_of_block (hch.chg.block w.heap.size hz nr)).trans (HF0.out 0);have g1:=(World.frozen?_of_block (hch.chg.block w.heap.size hz nr)).trans (HF0.out 1);have S0:=Lib.hid s0;have S1:=Lib.hid s1;have HRD:=Lib.hid hrd;have HCH:=Lib.hid hch;have M1:=Lib.hid hml;have M2:=Lib.hid hhl;have HD:=Lib.hid hd;clear s0 s1 hrd hch hml hhl hd;go_wp2;have hc3:Chg [w.heap.size] wc ((wc.setCell ⟨w.heap.size,0,none⟩ (.slice a0 n0 k0)).setCell ⟨w.heap.size,1,none⟩ (.slice a1 n1 k1)):=(store_chg _).trans' (store_chg _);have M0':((wc.setCell ⟨w.heap.size,0,none⟩ (.slice a0 n0 k0)).setCell ⟨w.heap.size,1,none⟩ (.slice a1 n1 k1)).cell? ⟨w.heap.size,0,none⟩=some (.slice a0 n0 k0):=setOther _ (by decide) (setSame _ m0);have M1':((wc.setCell ⟨w.heap.size,0,none⟩ (.slice a0 n0 k0)).setCell ⟨w.heap.size,1,none⟩ (.slice a1 n1 k1)).cell? ⟨w.heap.size,1,none⟩=some (.slice a1 n1 k1):=setSame _ (setOther _ (by decide) m1);refine bodyPost_ret (v:=.agg #[.slice a0 n0 k0,.slice a1 n1 k1]) (by simp [results,Try.results120,go_sem,M0',M1']) rfl ?_;exact ⟨m,h,_,_,f0,f1,rfl,S0.out.chg intR_fits hc3 (fun b hb hb'=>by have:=HD.out b (by simp [hb]);simp at hb';omega),S1.out.chg intR_fits hc3 (fun b hb hb'=>by have:=HD.out b (by simp [hb]);simp at hb';omega),M1.out,M2.out,fun b hb=>by have:=HD.out b hb;omega,(HRD.out.chg hc3 (by simp;omega) (fun b hb hb'=>by have:=FL.out b hb;simp at hb';omega)).mono (by omega),(((B0.out.chg [rb]).trans' HCH.out.chg).trans hc3).drop (fun b hb hlt'=>by simp at hb ⊢;omega)⟩
end Go.Proofs.Ytmcjklicepaiaaa
