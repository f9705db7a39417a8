/-
 Texts of this claim laid together: DMem.
-/
import Derived.Test.YtmcjklicepaiaaaPk38
import Derived.Deep.DeepCutAuto
import Derived.Deep.CutBlock
import Derived.WalkSmall
set_option linter.unusedVariables false
set_option linter.unusedSimpArgs false
namespace Go.Proofs.Ytmcjklicepaiaaa
open Go.RowKit Go.ChangeShapes Go.WideShapes
theorem flat_int (l:List Int):l.flatMap IntC=l.map (Value.int .i64):=by
 induction l with
 | nil=>rfl
 | cons x l ih=>simp [IntC,ih]
theorem SlR.drop {α:Type} {k:Nat} {R:Pr α} {w:World} {l:List α} {b off n cap:Nat} {fp:List Nat} (h:SlR k R w l (.slice (some ⟨b,off,none⟩) n cap) fp) (m:Nat) (hm:m<=n) :
 ∃ fq,SlR k R w (l.drop m) (.slice (some ⟨b,off+m*k,none⟩) (n - m) (cap - m)) fq∧∀ b,b∈fq->b∈fp:=by
 obtain ⟨a',n',cap',e,hn,hcap,hcm,hr⟩:=h;simp only [Value.slice.injEq] at e;obtain ⟨rfl,rfl,rfl⟩:=e;rcases hr with ⟨rfl,rfl⟩|⟨b',off',fps,e2,hb,rfl,hf,hc⟩
 ·exact ⟨[],⟨_,_,_,rfl,by simp at hn ⊢;omega,by omega,by omega,.inl ⟨by simp,rfl⟩⟩,by simp⟩
 ·simp only [Option.some.injEq,Addr.mk.injEq,and_true] at e2;obtain ⟨rfl,rfl⟩:=e2;refine ⟨b::(fps.drop m).flatten,⟨_,_,_,rfl,by simp;omega,by omega,by omega,.inr ⟨b,off+m*k,fps.drop m,rfl,hb,rfl,by simp;omega,fun i h h'=>?_⟩⟩,fun c hc'=>?_⟩
  ·have h1:m+i<l.length:=by simp at h;omega
   obtain ⟨cs,hR,hcell⟩:=hc (m+i) h1 (by omega);refine ⟨cs,by simpa using hR,fun j hj=>?_⟩;rw [show off+m*k+i*k+j=off+(m+i)*k+j by rw [Nat.add_mul];omega];exact hcell j hj
  ·rcases List.mem_cons.1 hc' with rfl|hm'
   ·exact List.mem_cons_self ..
   ·obtain ⟨f,hf1,hf2⟩:=List.mem_flatten.1 hm';exact List.mem_cons_of_mem _ (List.mem_flatten.2 ⟨f,List.mem_of_mem_drop hf1,hf2⟩)
theorem sMemNew_own (w:World) :
 Calls Try.prog 132 #[] w fun e w'=>e = .returned (.agg #[.slice (some ⟨w.heap.size+1,0,none⟩) 64 64])∧IntRow (w.heap.size+1) w' (.slice (some ⟨w.heap.size+1,0,none⟩) 64 64) (List.replicate 64 0)∧w.heap.size+1<w'.heap.size∧Below w.heap.size w w':=by
 obtain ⟨i0,hi,hz0,hz1,hz2⟩:=info_parts infoInt;go_enter Try.func132,Try.ntmps132
 go_wp2_with (at_make;refine wpList_make_full _ rfl _ _ 24 rfl (w.heap.size+1) 3 i0 (.int .i64 0) 1 Try.underlying24 hi hz0 hz1 _ _ _ _ 64 rfl rfl rfl rfl (by rw [hz2];omega) (by unfold maxLen;omega) (by simp) ?_;intro w1 hown hgr;have hb:=below_of_grown hgr;obtain ⟨ru1,ru2⟩:=rules_below hb;have HO:=Lib.hid hown;have HB:=Lib.hid hb;clear hown hgr hb)
 have hb:=HB.out;have ho:IntRow (w.heap.size+1) w1 (.slice (some ⟨w.heap.size+1,0,none⟩) 64 64) (List.replicate 64 0):=by
  have h:=HO.out;rw [show (madeCells (Value.int .i64 0).cells (64*1)).toList=(List.replicate 64 (0:Int)).map (Value.int .i64) from by simp [Value.cells,toList_madeCells_one]] at h;unfold IntRow OwnR;rw [flat_int];simpa using h
 have hc:w1.cell? ⟨w.heap.size,0,none⟩=some (.slice none 0 0):=by rw [ru1 _ _ (by simp),World.cell?_alloc_at _ _ _ _ rfl];rfl
 have hB:Below w.heap.size w (w1.setCell ⟨w.heap.size,0,none⟩ (.slice (some ⟨w.heap.size+1,0,none⟩) 64 64)):=(((Below.refl _ _).alloc (Nat.le_refl _) _).trans (hb.mono (by simp))).setCell (Nat.le_refl _) _;have hlt:=(own_lt ho (g:=w.heap.size+1) rfl).2;exact bodyPost_ret (v:=.agg #[.slice (some ⟨w.heap.size+1,0,none⟩) 64 64]) (by simp [results,Try.results132,go_sem,World.cell?_setCell_same _ _ _ hc]) rfl
  ⟨rfl,OwnR.chg ho (store_chg _) (by omega),by simpa using hlt,hB⟩
set_option maxRecDepth 100000 in
set_option maxHeartbeats 3200000 in
theorem l20Mem_any (rb:Nat) (fq:List Nat) (N n:Int) (hn:1<=n) (hn':n<=1000000) (hN:N<=990000000) (w:World) (h:RdAt w rb fq N) (fl:∀ b,b∈fq->b<w.heap.size) :
 Calls Try.prog 146 #[.pointer (some ⟨rb,0,none⟩),.int .i64 n] w fun e w'=>∃ (x:List Int) (vd:Value) (fd:List Nat),e = .returned (.agg #[vd])∧SlR 1 intR w' x vd fd∧x.length<=65∧(∀ b,b∈fd->w.heap.size<=b)∧RdAt w' rb fq (N+1000)∧Chg [rb] w w':=by
 have hlt:=h.lt;have FL:=Lib.hid fl;obtain ⟨i0,ki,kz0,kz1,kz2⟩:=info_parts infoInt;obtain ⟨W0,hW⟩:∃ W,W=w.alloc (.cells #[.slice none 0 0] 66):=⟨_,rfl⟩;have hb0:Below w.heap.size w W0:=by rw [hW];exact below_alloc _ _
 have hz0:W0.heap.size=w.heap.size+1:=by rw [hW];simp
 have HR0:Hid (W0.cell? ⟨w.heap.size,0,none⟩=some (.slice none 0 0)):=Lib.hid (by rw [hW];exact alloc1_new w _ _ 0 rfl);have HF0:Hid (W0.frozen? ⟨w.heap.size,0,none⟩=false):=Lib.hid (by rw [hW];exact alloc1_free _ _ _ _);have H0:=Lib.hid ((h.below hb0).mono (show N<=N+0 by omega));have B0:=Lib.hid hb0;have HZ0:=Lib.hid hz0;clear h fl hb0 hz0;go_enter Try.func146,Try.ntmps146
 go_wp2_with fail
 rw [<- hW];clear hW;refine (sMemNew_own _).mono ?_;rintro e w1 ⟨rfl,o1,z1,b1⟩;obtain ⟨g,hg⟩:∃ b,b=W0.heap.size+1:=⟨_,rfl⟩;rw [<- hg] at o1 z1 ⊢;have HO1:=Lib.hid o1;have H1:=Lib.hid (H0.out.below b1);have C1:=Lib.hid (show Low rb g W0 w1 from ⟨by omega,b1.chg _⟩);have HG:=Lib.hid hg;have hgw:w.heap.size<g:=by have:=HZ0.out;omega
 clear o1 b1 H0 hg;go_wp2_with fail
 obtain ⟨bq,hbq⟩:∃ b,b=w1.heap.size:=⟨_,rfl⟩;obtain ⟨W2,hW2⟩:∃ W,W=w1.alloc (.cells #[.slice (some ⟨g,0,none⟩) 64 64] 66):=⟨_,rfl⟩;have hgb:g<bq:=by omega
 have HC2:=Lib.hid (show W2.cell? ⟨bq,0,none⟩=some (.slice (some ⟨g,0,none⟩) 64 64) by rw [hW2,hbq];exact alloc1_new w1 _ _ 0 rfl);have HF2:=Lib.hid (show W2.frozen? ⟨bq,0,none⟩=false by rw [hW2,hbq];exact alloc1_free _ _ _ _);have HO2:=Lib.hid (show IntRow g W2 (.slice (some ⟨g,0,none⟩) 64 64) (List.replicate 64 0) by rw [hW2];exact OwnR.below HO1.out (below_alloc _ _));have H2:=Lib.hid (show RdAt W2 rb fq (N+0) by rw [hW2];exact H1.out.below (below_alloc _ _));have C2:=Lib.hid (show Low rb g W0 W2 by rw [hW2];exact C1.out.below ((below_alloc _ _).mono (by omega)));rw [<- hW2,<- hbq];clear hW2 hbq HO1 H1 C1;have hrg:rb<g:=by omega
 have nbq:bq∉[rb]:=by simp;omega
 have FLG:Hid (∀ b,b∈fq->b<g):=Lib.hid (fun b hb=>by have:=FL.out b hb;omega);refine (pick_any rb fq (N+0) 8 (by omega) (by omega) (by omega) _ H2.out).mono ?_;rintro e w3 ⟨x3,rfl,lo3,hi3,h1,h2⟩;have HC3:=Lib.hid (keep_cell_chg h2 HC2.out nbq);have HF3:=Lib.hid ((World.frozen?_of_block (h2.block bq (block_of_cell HC2.out) nbq)).trans HF2.out);have HO3:=Lib.hid (OwnR.chg HO2.out h2 hrg);have H3:=Lib.hid (h1.mono (show N+0+1<=N+10 by omega));have C3:=Lib.hid (Low.step C2.out h2 (fun k hk=>by simp at hk;omega));clear h1 h2 HC2 HF2 HO2 H2 C2;obtain ⟨k3,rfl⟩:=Int.eq_ofNat_of_zero_le lo3;go_wp2_with fail
 go_loopw [6] (fun i wr=>∃ (k:Nat) (y:List Int),k<=7∧i = .int .i64 k∧wr.cell? ⟨bq,0,none⟩=some (.slice (some ⟨g,0,none⟩) 64 64)∧wr.frozen? ⟨bq,0,none⟩=false∧IntRow g wr (.slice (some ⟨g,0,none⟩) 64 64) y∧Hid (y.length=64)∧RdAt wr rb fq (N+10+100*(7 - (k:Int)))∧Low rb g W0 wr) (fun i _=>(intOf i).toNat)
 case atStart=>exact ⟨k3,_,by omega,rfl,HC3.out,HF3.out,HO3.out,Lib.hid (by simp),H3.out.mono (by omega),C3.out⟩
 case round =>
  obtain ⟨k,y,hk,rfl,c0,f0,ho,hyl,hrd,hch⟩:=hrel;have HO:=Lib.hid ho;have HR:=Lib.hid hrd;have HC:=Lib.hid hch;clear ho hrd hch HC3 HF3 HO3 H3 C3;by_cases hlt2:0<k
  ·have hlt3:0<(k:Int):=by omega
   go_wp2_with fail
   have hst:∀ F,F∈[FEq (.pointer (some ⟨bq,0,none⟩)),FEq (.slice (some ⟨g,0,none⟩) 64 64),FEq (.pointer (some ⟨rb,0,none⟩)),FInt (0) (63),FEq (.pointer (some ⟨rb,0,none⟩)),FInt (0) (255),FInt (0) (65535)]->Stable [rb] F:=by
    simp only [List.forall_mem_cons];exact ⟨stEq _ _,stEq _ _,stEq _ _,stInt _ _ _,stEq _ _,stInt _ _ _,stInt _ _ _,fun _ h=>by simp at h⟩
   refine wp_region_tail (by kernel_rfl) (fun i=>([[],[0],[],[2],[],[2,3,4],[2,3,4,5],[0,1,2,3,4,5,6],[0,1,2,3,4,5,6,7]]:List (List Nat)).getD i []) (facts [FEq (.pointer (some ⟨bq,0,none⟩)),FEq (.slice (some ⟨g,0,none⟩) 64 64),FEq (.pointer (some ⟨rb,0,none⟩)),FInt (0) (63),FEq (.pointer (some ⟨rb,0,none⟩)),FInt (0) (255),FInt (0) (65535)]) (fun m w'=>RdAt w' rb fq ((N+10+100*(7 - (k:Int)))+10*m)∧Chg [rb] wr w') 51 9 7 [some 14,some 15,some 16,some 17,some 18,some 19,some 20] _ rfl rfl (by decide) rfl rfl (by kernel_rfl) (by kernel_rfl) [] (by kernel_rfl) (fun g b hm v w h=>by simp at hm) ?h0 (all_lt (n:=7) ?hop) ?hend
   case h0=>exact ⟨(HR.out.below (Below.refl _ _).drew).mono (by omega),(Chg.refl _ _).drewN 1⟩
   case hop =>
    refine ⟨⟨⟨⟨⟨⟨⟨trivial,?_⟩,?_⟩,?_⟩,?_⟩,?_⟩,?_⟩,?_⟩
    ·refine Owes.mk _ rfl rfl (fun _ _ h=>by cases h) fun u m w' hm ⟨hI,hc⟩ hR=>⟨⟨(frm 51 [(5,.pointer (some ⟨bq,0,none⟩))]).toArray,[]⟩,rfl,fun d hd=>by cases hd;exact frm_lt (by decide),?_⟩;dsimp only [frm,List.foldl,List.replicate,List.set];have hm:m<9:=hm;clear hR;have k0:=keep_cell_chg hc c0 nbq;clear hst;go_wp2;exact ⟨rfl,_,rfl,rfl,⟨hI.mono (by omega),hc⟩,fun _ _ h=>h⟩
    ·refine Owes.mk _ rfl rfl (fun _ _ h=>by cases h) fun u m w' hm ⟨hI,hc⟩ hR=>⟨⟨(frm 51 [(14,u 0)]).toArray,[]⟩,rfl,fun d hd=>by cases hd;exact frm_lt (by decide),?_⟩;dsimp only [frm,List.foldl,List.replicate,List.set];have hm:m<9:=hm;have ev0:u 0=_:=hR 0 (by decide);clear hR;rw [ev0];have k0:=keep_cell_chg hc c0 nbq;clear hst;go_wp2;exact ⟨rfl,_,rfl,rfl,⟨hI.mono (by omega),hc⟩,fun _ _ h=>h⟩
    ·refine Owes.mk _ rfl rfl (fun _ _ h=>by cases h) fun u m w' hm ⟨hI,hc⟩ hR=>⟨⟨(frm 51 [(0,.pointer (some ⟨rb,0,none⟩))]).toArray,[]⟩,rfl,fun d hd=>by cases hd;exact frm_lt (by decide),?_⟩;dsimp only [frm,List.foldl,List.replicate,List.set];have hm:m<9:=hm;clear hR;go_wp2;exact ⟨rfl,_,rfl,rfl,⟨hI.mono (by omega),hc⟩,fun _ _ h=>h⟩
    ·refine Owes.mk _ rfl rfl (fun _ _ h=>by cases h) fun u m w' hm ⟨hI,hc⟩ hR=>⟨⟨(frm 51 [(16,u 2)]).toArray,[]⟩,rfl,fun d hd=>by cases hd;exact frm_lt (by decide),?_⟩;dsimp only [frm,List.foldl,List.replicate,List.set];have hm:m<9:=hm;have ea0:u 2=_:=hR 2 (by decide);clear hR;rw [ea0];go_wp2_with fail
     refine (l20Addr_any rb fq ((N+10+100*(7 - (k:Int)))+10*m) (by omega) _ hI).mono ?_;rintro e w2 ⟨⟨x,lo,hi,rfl⟩,g1,g2⟩;have hs:=facts_stable hst g2;have G1:=Lib.hid (g1.mono (show _<=(N+10+100*(7 - (k:Int)))+10*((m+1:Nat):Int) by omega));have G2:=Lib.hid (hc.trans' g2);have HS:=Lib.hid hs;clear g1 g2 hs hc hI hst;go_wp2;exact ⟨rfl,_,rfl,⟨x,by omega,by omega,rfl⟩,⟨G1.out,G2.out⟩,HS.out⟩
    ·refine Owes.mk _ rfl rfl (fun _ _ h=>by cases h) fun u m w' hm ⟨hI,hc⟩ hR=>⟨⟨(frm 51 [(0,.pointer (some ⟨rb,0,none⟩))]).toArray,[]⟩,rfl,fun d hd=>by cases hd;exact frm_lt (by decide),?_⟩;dsimp only [frm,List.foldl,List.replicate,List.set];have hm:m<9:=hm;clear hR;go_wp2;exact ⟨rfl,_,rfl,rfl,⟨hI.mono (by omega),hc⟩,fun _ _ h=>h⟩
    ·refine Owes.mk _ rfl rfl (fun _ _ h=>by cases h) fun u m w' hm ⟨hI,hc⟩ hR=>⟨⟨(frm 51 [(18,u 4)]).toArray,[]⟩,rfl,fun d hd=>by cases hd;exact frm_lt (by decide),?_⟩;dsimp only [frm,List.foldl,List.replicate,List.set];have hm:m<9:=hm;have ea0:u 4=_:=hR 4 (by decide);clear hR;rw [ea0];go_wp2_with fail
     refine (pick_any rb fq ((N+10+100*(7 - (k:Int)))+10*m) 256 (by omega) (by omega) (by omega) _ hI).mono ?_;rintro e w2 ⟨x,rfl,lo,hi,g1,g2⟩;have hs:=facts_stable hst g2;have G1:=Lib.hid (g1.mono (show (N+10+100*(7 - (k:Int)))+10*(m:Int)+1<=(N+10+100*(7 - (k:Int)))+10*((m+1:Nat):Int) by omega));have G2:=Lib.hid (hc.trans' g2);have HS:=Lib.hid hs;clear g1 g2 hs hc hI hst;go_wp2;exact ⟨rfl,_,rfl,⟨x,by omega,by omega,rfl⟩,⟨G1.out,G2.out⟩,HS.out⟩
    ·refine Owes.mk _ rfl rfl (fun _ _ h=>by cases h) fun u m w' hm ⟨hI,hc⟩ hR=>⟨⟨(frm 51 [(19,u 5)]).toArray,[]⟩,rfl,fun d hd=>by cases hd;exact frm_lt (by decide),?_⟩;dsimp only [frm,List.foldl,List.replicate,List.set];have hm:m<9:=hm;obtain ⟨xa,la,ha,ea⟩:=hR 5 (by decide);clear hR;rw [ea];go_wp2;exact ⟨rfl,_,rfl,⟨_,by omega,by omega,rfl⟩,⟨hI.mono (by omega),hc⟩,fun _ _ h=>h⟩
   case hend =>
    intro u w' ⟨hI,hc⟩ hR;simp only [setAll,List.set_cons_zero,List.set_cons_succ];have e1:u 1=_:=hR 1 (by decide);obtain ⟨q3,lq3,hq3,e3⟩:=hR 3 (by decide);obtain ⟨q6,lq6,hq6,e6⟩:=hR 6 (by decide);obtain ⟨i3,rfl⟩:=Int.eq_ofNat_of_zero_le lq3;rw [e1,e3,e6];have HOw:=Lib.hid (OwnR.chg HO.out hc hrg);have hi:i3<y.length:=by rw [hyl.out];omega
    have cw:w'.cell? ⟨g,i3,none⟩=some (.int .i64 y[i3]):=by
     have:=OwnR.cell IntC_len HOw.out hi (j:=0) (by simp [IntC]);simpa [IntC] using this
    have fw:w'.frozen? ⟨g,i3,none⟩=false:=OwnR.frozen HOw.out _;have c1:=keep_cell_chg hc c0 nbq;have f1:=(World.frozen?_of_block (hc.block bq (block_of_cell c0) nbq)).trans f0;have HRw:=Lib.hid hI;have HCw:=Lib.hid (HC.out.step hc (fun k hk=>by simp at hk;omega));have HON:=Lib.hid (OwnR.store IntC_len HOw.out hi (j:=0) (by decide) (.int .i64 q6) q6 rfl);have hi64:(i3:Int)<64:=by omega
    obtain ⟨cy,hcy⟩:∃ c,c=y[i3]:=⟨_,rfl⟩;rw [<- hcy] at cw;clear hR hI hc hst e1 e3 e6 HO HR HC HOw c0 f0 hcy;go_wp2
    go_roundw
    case rel=>exact ⟨k - 1,y.set i3 q6,by omega,by go_num,setFar _ (by omega) c1,(World.frozen?_setCell _ _ _ _).trans f1,by simpa using HON.out,Lib.hid (by rw [List.length_set];exact hyl.out),(HRw.out.chg (store_chg _) (by simp;omega) (fun b hb hb'=>by have:=FLG.out b hb;simp at hb';omega)).mono (by omega),HCw.out.step (store_chg _) (fun k hk=>by simp at hk;omega)⟩
    case measure=>simp [intOf];omega
  ·have hk0:k=0:=by omega
   subst hk0;go_wp2_with fail
   refine (odd_any rb fq (N+710) n (by omega) (by omega) (by omega) _ (HR.out.mono (by omega))).mono ?_;rintro e w4 ⟨⟨b,rfl⟩,h1,h2⟩;have c4:=keep_cell_chg h2 c0 nbq;have f4:=(World.frozen?_of_block (h2.block bq (block_of_cell c0) nbq)).trans f0;have HO4:=Lib.hid (OwnR.chg HO.out h2 hrg);have H4:=Lib.hid (h1.mono (show N+710+1<=N+720 by omega));have C4:=Lib.hid (Low.step HC.out h2 (fun k hk=>by simp at hk;omega));clear h1 h2 HO HR HC c0 f0
   go_upto_if 24 with fail
   go_cut [] (fun wc=>∃ (x:List Int) (vd:Value) (fd:List Nat),wc.cell? ⟨bq,0,none⟩=some vd∧SlR 1 intR wc x vd fd∧x.length<=65∧(∀ b,b∈fd->w.heap.size<b)∧RdAt wc rb fq (N+900)∧Low rb g W0 wc)
   case first =>
    cases b
    ·go_wp2_with fail
     go_meet
     case rel =>
      obtain ⟨fd,hs,hfd,_⟩:=intRow_reads HO4.out;exact ⟨y,_,fd,c4,hs,by rw [hyl.out];decide,fun b hb=>by have:=hfd b hb;omega,H4.out.mono (by omega),C4.out⟩
    ·go_wp2_with fail
     refine (pick_any rb fq (N+720) 3 (by omega) (by omega) (by omega) _ H4.out).mono ?_;rintro e w5 ⟨x5,rfl,lo5,hi5,h1,h2⟩;have c5:=keep_cell_chg h2 c4 nbq;have f5:=(World.frozen?_of_block (h2.block bq (block_of_cell c4) nbq)).trans f4;have HO5:=Lib.hid (OwnR.chg HO4.out h2 hrg);have H5:=Lib.hid (h1.mono (show N+720+1<=N+721 by omega));have C5:=Lib.hid (Low.step C4.out h2 (fun k hk=>by simp at hk;omega));clear h1 h2 HO4 H4 C4 c4 f4;have hx:x5=0∨x5=1∨x5=2:=by omega
     rcases hx with rfl|rfl|rfl
     ·obtain ⟨fd,hs,hfd,_⟩:=OwnR.readsB IntC_len HO5.out;obtain ⟨fd2,hs2,hfd2⟩:=hs.drop 1 (by decide);have HS:=Lib.hid hs2;have HFD:Hid (∀ b,b∈fd2->b=g):=Lib.hid (fun b hb=>by have:=hfd b (hfd2 b hb);simp [Value.ownBlock] at this;omega);clear hs hs2 hfd hfd2;go_wp2_with fail
      go_meet
      case rel=>exact ⟨_,_,fd2,setSame _ c5,(HS.out.chg intR_fits (store_chg _) (fun b hb hb'=>by have:=HFD.out b hb;simp at hb';omega)),by rw [List.length_drop,hyl.out];decide,fun b hb=>by have:=HFD.out b hb;omega,(H5.out.chg (store_chg _) (by simp;omega) (fun b hb hb'=>by have:=FLG.out b hb;simp at hb';omega)).mono (by omega),C5.out.step (store_chg _) (fun k hk=>by simp at hk;omega)⟩
     ·go_wp2_with fail
      have hst:∀ F,F∈[FEq (.pointer (some ⟨bq,0,none⟩)),FEq (.slice (some ⟨g,0,none⟩) 64 64),FEq (.pointer (some ⟨rb,0,none⟩)),FInt (0) (63),FSl [rb] 2 (-1) (65536),FEq (.pointer (some ⟨rb,0,none⟩)),FInt (0) (1),FPtr [rb] (-1) (65536),FInt (-1) (65536)]->Stable [rb] F:=by
       simp only [List.forall_mem_cons];exact ⟨stEq _ _,stEq _ _,stEq _ _,stInt _ _ _,stSl _ _ _ _,stEq _ _,stInt _ _ _,stPtr _ _ _,stInt _ _ _,fun _ h=>by simp at h⟩
      refine wp_region_tail (by kernel_rfl) (fun i=>([[],[0],[],[2],[],[],[2,3,5],[2,3,4,5,6],[2,3,4,5,6,7],[0,1,2,3,4,5,6,7,8],[0,1,2,3,4,5,6,7,8,9]]:List (List Nat)).getD i []) (facts [FEq (.pointer (some ⟨bq,0,none⟩)),FEq (.slice (some ⟨g,0,none⟩) 64 64),FEq (.pointer (some ⟨rb,0,none⟩)),FInt (0) (63),FSl [rb] 2 (-1) (65536),FEq (.pointer (some ⟨rb,0,none⟩)),FInt (0) (1),FPtr [rb] (-1) (65536),FInt (-1) (65536)]) (fun m w'=>RdAt w' rb fq ((N+721)+10*m)∧Chg [rb] w5 w') 51 11 9 [some 40,some 41,some 42,some 43,some 44,some 45,some 46,some 47,some 48] _ rfl rfl (by decide) rfl rfl (by kernel_rfl) (by kernel_rfl) [] (by kernel_rfl) (fun g b hm v w h=>by simp at hm) ?h0 (all_lt (n:=9) ?hop) ?hend
      case h0=>exact ⟨(H5.out.below (Below.refl _ _).drew).mono (by omega),(Chg.refl _ _).drewN 1⟩
      case hop =>
       refine ⟨⟨⟨⟨⟨⟨⟨⟨⟨trivial,?_⟩,?_⟩,?_⟩,?_⟩,?_⟩,?_⟩,?_⟩,?_⟩,?_⟩
       ·refine Owes.mk _ rfl rfl (fun _ _ h=>by cases h) fun u m w' hm ⟨hI,hc⟩ hR=>⟨⟨(frm 51 [(5,.pointer (some ⟨bq,0,none⟩))]).toArray,[]⟩,rfl,fun d hd=>by cases hd;exact frm_lt (by decide),?_⟩;dsimp only [frm,List.foldl,List.replicate,List.set];have hm:m<11:=hm;clear hR;have k0:=keep_cell_chg hc c5 nbq;clear hst;go_wp2;exact ⟨rfl,_,rfl,rfl,⟨hI.mono (by omega),hc⟩,fun _ _ h=>h⟩
       ·refine Owes.mk _ rfl rfl (fun _ _ h=>by cases h) fun u m w' hm ⟨hI,hc⟩ hR=>⟨⟨(frm 51 [(40,u 0)]).toArray,[]⟩,rfl,fun d hd=>by cases hd;exact frm_lt (by decide),?_⟩;dsimp only [frm,List.foldl,List.replicate,List.set];have hm:m<11:=hm;have ev0:u 0=_:=hR 0 (by decide);clear hR;rw [ev0];have k0:=keep_cell_chg hc c5 nbq;clear hst;go_wp2;exact ⟨rfl,_,rfl,rfl,⟨hI.mono (by omega),hc⟩,fun _ _ h=>h⟩
       ·refine Owes.mk _ rfl rfl (fun _ _ h=>by cases h) fun u m w' hm ⟨hI,hc⟩ hR=>⟨⟨(frm 51 [(0,.pointer (some ⟨rb,0,none⟩))]).toArray,[]⟩,rfl,fun d hd=>by cases hd;exact frm_lt (by decide),?_⟩;dsimp only [frm,List.foldl,List.replicate,List.set];have hm:m<11:=hm;clear hR;go_wp2;exact ⟨rfl,_,rfl,rfl,⟨hI.mono (by omega),hc⟩,fun _ _ h=>h⟩
       ·refine Owes.mk _ rfl rfl (fun _ _ h=>by cases h) fun u m w' hm ⟨hI,hc⟩ hR=>⟨⟨(frm 51 [(42,u 2)]).toArray,[]⟩,rfl,fun d hd=>by cases hd;exact frm_lt (by decide),?_⟩;dsimp only [frm,List.foldl,List.replicate,List.set];have hm:m<11:=hm;have ea0:u 2=_:=hR 2 (by decide);clear hR;rw [ea0];go_wp2_with fail
        refine (pick_any rb fq ((N+721)+10*m) 64 (by omega) (by omega) (by omega) _ hI).mono ?_;rintro e w2 ⟨x,rfl,lo,hi,g1,g2⟩;have hs:=facts_stable hst g2;have G1:=Lib.hid (g1.mono (show (N+721)+10*(m:Int)+1<=(N+721)+10*((m+1:Nat):Int) by omega));have G2:=Lib.hid (hc.trans' g2);have HS:=Lib.hid hs;clear g1 g2 hs hc hI hst;go_wp2;exact ⟨rfl,_,rfl,⟨x,by omega,by omega,rfl⟩,⟨G1.out,G2.out⟩,HS.out⟩
       ·refine Owes.mk _ rfl rfl (fun _ _ h=>by cases h) fun u m w' hm ⟨hI,hc⟩ hR=>⟨⟨(frm 51 []).toArray,[]⟩,rfl,fun d hd=>by cases hd;exact frm_lt (by decide),?_⟩;dsimp only [frm,List.foldl,List.replicate,List.set];have hm:m<11:=hm;clear hR;have hlt:=hI.lt;have nb:w'.heap.size∉[rb]:=by simp;omega
        have HL:=Lib.hid hlt;have HI:=Lib.hid hI;have HC:=Lib.hid hc;clear hI hc hlt;go_wp2;have ba:∀ A:Array Value,Below w'.heap.size w' (w'.alloc (.cells A 3)):=fun A=>below_alloc _ _;refine ⟨rfl,_,rfl,⟨_,rfl,nb,fun i hi=>?_⟩,⟨(HI.out.below (ba _)).mono (by omega),HC.out.trans' ((ba _).chg _)⟩,facts_stable hst ((ba _).chg _)⟩;have hx:i=0∨i=1:=by omega
        rcases hx with rfl|rfl
        ·exact ⟨(-1),by omega,by omega,alloc1_new _ _ _ 0 rfl⟩
        ·exact ⟨(65536),by omega,by omega,alloc1_new _ _ _ 1 rfl⟩
       ·refine Owes.mk _ rfl rfl (fun _ _ h=>by cases h) fun u m w' hm ⟨hI,hc⟩ hR=>⟨⟨(frm 51 [(0,.pointer (some ⟨rb,0,none⟩))]).toArray,[]⟩,rfl,fun d hd=>by cases hd;exact frm_lt (by decide),?_⟩;dsimp only [frm,List.foldl,List.replicate,List.set];have hm:m<11:=hm;clear hR;go_wp2;exact ⟨rfl,_,rfl,rfl,⟨hI.mono (by omega),hc⟩,fun _ _ h=>h⟩
       ·refine Owes.mk _ rfl rfl (fun _ _ h=>by cases h) fun u m w' hm ⟨hI,hc⟩ hR=>⟨⟨(frm 51 [(45,u 5)]).toArray,[]⟩,rfl,fun d hd=>by cases hd;exact frm_lt (by decide),?_⟩;dsimp only [frm,List.foldl,List.replicate,List.set];have hm:m<11:=hm;have ea0:u 5=_:=hR 5 (by decide);clear hR;rw [ea0];go_wp2_with fail
        refine (pick_any rb fq ((N+721)+10*m) 2 (by omega) (by omega) (by omega) _ hI).mono ?_;rintro e w2 ⟨x,rfl,lo,hi,g1,g2⟩;have hs:=facts_stable hst g2;have G1:=Lib.hid (g1.mono (show (N+721)+10*(m:Int)+1<=(N+721)+10*((m+1:Nat):Int) by omega));have G2:=Lib.hid (hc.trans' g2);have HS:=Lib.hid hs;clear g1 g2 hs hc hI hst;go_wp2;exact ⟨rfl,_,rfl,⟨x,by omega,by omega,rfl⟩,⟨G1.out,G2.out⟩,HS.out⟩
       ·refine Owes.mk _ rfl rfl (fun _ _ h=>by cases h) fun u m w' hm ⟨hI,hc⟩ hR=>⟨⟨(frm 51 [(44,u 4),(46,u 6)]).toArray,[]⟩,rfl,fun d hd=>by cases hd;exact frm_lt (by decide),?_⟩;dsimp only [frm,List.foldl,List.replicate,List.set];have hm:m<11:=hm;obtain ⟨bs,es,ns,cs⟩:=hR 4 (by decide);obtain ⟨xi,li,hi,ei⟩:=hR 6 (by decide);obtain ⟨q,rfl⟩:=Int.eq_ofNat_of_zero_le li;obtain ⟨y,hy1,hy2,hy⟩:=cs q (by omega);have qlt:(q:Int)<2:=by omega
        clear hR;rw [es,ei];clear cs;go_wp2;exact ⟨rfl,_,rfl,⟨_,_,y,rfl,ns,hy1,hy2,by simpa using hy⟩,⟨hI.mono (by omega),hc⟩,fun _ _ h=>h⟩
       ·refine Owes.mk _ rfl rfl (fun _ _ h=>by cases h) fun u m w' hm ⟨hI,hc⟩ hR=>⟨⟨(frm 51 [(47,u 7)]).toArray,[]⟩,rfl,fun d hd=>by cases hd;exact frm_lt (by decide),?_⟩;dsimp only [frm,List.foldl,List.replicate,List.set];have hm:m<11:=hm;obtain ⟨bs,is,xs,es,ns,ls,hs,cs⟩:=hR 7 (by decide);clear hR;rw [es];go_wp2;exact ⟨rfl,_,rfl,⟨xs,by omega,by omega,rfl⟩,⟨hI.mono (by omega),hc⟩,fun _ _ h=>h⟩
      case hend =>
       intro u w' ⟨hI,hc⟩ hR;simp only [setAll,List.set_cons_zero,List.set_cons_succ];have e1:u 1=_:=hR 1 (by decide);obtain ⟨q3,lq3,hq3,e3⟩:=hR 3 (by decide);obtain ⟨q6,lq6,hq6,e6⟩:=hR 8 (by decide);obtain ⟨i3,rfl⟩:=Int.eq_ofNat_of_zero_le lq3;rw [e1,e3,e6];have HOw:=Lib.hid (OwnR.chg HO5.out hc hrg);have hi:i3<y.length:=by rw [hyl.out];omega
       have cw:w'.cell? ⟨g,i3,none⟩=some (.int .i64 y[i3]):=by
        have:=OwnR.cell IntC_len HOw.out hi (j:=0) (by simp [IntC]);simpa [IntC] using this
       have fw:w'.frozen? ⟨g,i3,none⟩=false:=OwnR.frozen HOw.out _;have c1:=keep_cell_chg hc c5 nbq;have HRw:=Lib.hid hI;have HCw:=Lib.hid (C5.out.step hc (fun k hk=>by simp at hk;omega));have hon:IntRow g (w'.setCell ⟨g,i3,none⟩ (.int .i64 q6)) (.slice (some ⟨g,0,none⟩) 64 64) (y.set i3 q6):=by simpa using OwnR.store IntC_len HOw.out hi (j:=0) (by decide) (.int .i64 q6) q6 rfl
       obtain ⟨fd,hs,hfd,_⟩:=OwnR.readsB IntC_len hon;have HS:=Lib.hid hs;have HFD:=Lib.hid hfd;have hi64:(i3:Int)<64:=by omega
       obtain ⟨cy,hcy⟩:∃ c,c=y[i3]:=⟨_,rfl⟩;rw [<- hcy] at cw;clear hR hI hc hst e1 e3 e6 HO5 H5 C5 HOw c5 f5 hcy hon hs hfd;go_wp2_with fail
       go_meet
       case rel=>exact ⟨y.set i3 q6,_,fd,setFar _ (by omega) c1,HS.out,by rw [List.length_set,hyl.out];decide,fun b hb=>by have:=HFD.out b hb;simp [Value.ownBlock] at this;omega,(HRw.out.chg (store_chg _) (by simp;omega) (fun b hb hb'=>by have:=FLG.out b hb;simp at hb';omega)).mono (by omega),HCw.out.step (store_chg _) (fun k hk=>by simp at hk;omega)⟩
     ·have hws:bq<w5.heap.size:=block_of_cell c5;have hyl2:=hyl.out;have HYL:=Lib.hid (show y.length<=2000000 by omega);have HYL2:=Lib.hid (show (y++[(0:Int)]).length<=65 by simp;omega);have hgw5:g<=w5.heap.size:=by omega
      have HO5a:=Lib.hid (OwnR.below HO5.out (below_alloc w5 (.cells #[.int .i64 0] 3)));have hga:g<=(w5.alloc (.cells #[.int .i64 0] 3)).heap.size:=by simp;omega
      have hnews:∀ (j:Nat) (u:Value),(([0]:List Int).flatMap IntC)[j]?=some u->(w5.alloc (.cells #[.int .i64 0] 3)).cell? ((⟨w5.heap.size,0,none⟩:Addr).add j)=some u:=fun j u hj=>by
       have hj0:j=0:=by have:=(List.getElem?_eq_some_iff.1 hj).1;simpa [IntC] using this
       subst hj0;simp [IntC] at hj;subst hj;exact alloc1_new _ _ _ 0 rfl
      have hneb:some bq≠(Value.slice (some ⟨g,0,none⟩) 64 64).ownBlock:=by simp [Value.ownBlock];omega
      have hbqa:bq<(w5.alloc (.cells #[.int .i64 0] 3)).heap.size:=by simp;omega
      clear hyl2;go_wp2_with (at_builtin;go_loud (refine wpList_appendB (K:=1) (c:=IntC) (l:=y) (news:=[0]) (base:=g) rfl _ _ 24 3 i0 (.int .i64 0) 8 IntC_len rfl Try.underlying24 ki kz0 kz1 kz2 rfl (by decide) (by decide) rfl rfl HO5a.out rfl (by decide) hnews (by simp [IntC,Value.oneCell']) HYL.out (by decide) hga ?_);intro v' w6 hown' hg' hbl;go_loud (obtain ⟨va,vn,vc,rfl,_⟩:=OwnR.slice hown');have e1:some bq≠(Value.slice (some ⟨g,0,none⟩) 64 64).ownBlock:=hneb;go_loud (have c6:=hg'.cell (alloc_keep c5 _) hneb);go_loud (have f6:=(World.frozen?_of_block (hg'.block bq hbqa hneb)).trans ((World.frozen?_alloc_past _ _ _ hws).trans f5));have HR6:=Lib.hid hown';go_loud (have HB6:=Lib.hid (grown_below HO5a.out hg' hga));have HBL:Hid ((Value.slice va vn vc).ownBlock=(Value.slice (some ⟨g,0,none⟩) 64 64).ownBlock∨(Value.slice va vn vc).ownBlock=some (w5.alloc (.cells #[.int .i64 0] 3)).heap.size):=Lib.hid hbl;clear hown' hg' hbl)
      go_meet
      case rel =>
       have hb6:Below g w5 w6:=Below.trans ((below_alloc w5 _).mono hgw5) HB6.out;obtain ⟨fd,hs,hfd,_⟩:=OwnR.readsB IntC_len HR6.out;have hfd2:∀ b,b∈fd->w.heap.size<b∧b≠bq:=fun b hb=>by
        have h1:=hfd b hb;rcases HBL.out with h2|h2
        ·rw [h1] at h2;have h3:b=g:=by simpa [Value.ownBlock] using h2
         exact ⟨by omega,by omega⟩
        ·rw [h1] at h2;have h3:b=w5.heap.size+1:=by simpa using h2
         exact ⟨by omega,by omega⟩
       exact ⟨_,_,fd,setSame _ c6,hs.chg intR_fits (store_chg _) (fun b hb hb'=>by have:=(hfd2 b hb).2;simp at hb';omega),HYL2.out,fun b hb=>(hfd2 b hb).1,((H5.out.low hb6 hrg FLG.out).chg (store_chg _) (by simp;omega) (fun b hb hb'=>by have:=FLG.out b hb;simp at hb';omega)).mono (by omega),(C5.out.below hb6).step (store_chg _) (fun k hk=>by simp at hk;omega)⟩
   case rest =>
    obtain ⟨x,vd,fd,c0,hs,hl,hfd,hrd,hch⟩:=hcut;obtain ⟨va,vn,vc,rfl⟩:=hs.form;have nr:w.heap.size∉[rb]:=by simp;omega
    have hz:w.heap.size<W0.heap.size:=by have:=HZ0.out;omega
    have m0:=keep_cell_chg hch.chg HR0.out nr;have f0:=(World.frozen?_of_block (hch.chg.block w.heap.size hz nr)).trans HF0.out;have HS:=Lib.hid hs;have HFD:=Lib.hid hfd;have HRD:=Lib.hid hrd;have HCH:=Lib.hid hch;have HL2:=Lib.hid hl;clear hs hl hfd hrd hch HO4 H4 C4 c4 f4;go_wp2;refine bodyPost_ret (v:=.agg #[.slice va vn vc]) (by simp [results,Try.results146,go_sem,World.cell?_setCell_same _ _ _ m0]) rfl ?_;exact ⟨x,_,fd,rfl,HS.out.chg intR_fits (store_chg _) (fun b hb hb'=>by have:=HFD.out b hb;simp at hb';omega),HL2.out,fun b hb=>by have:=HFD.out b hb;omega,(HRD.out.chg (store_chg _) (by simp;omega) (fun b hb hb'=>by have:=FL.out b hb;simp at hb';omega)).mono (by omega),(((B0.out.chg [rb]).trans' HCH.out.chg).trans (store_chg _)).drop (fun b hb hlt'=>by simp at hb ⊢;omega)⟩
end Go.Proofs.Ytmcjklicepaiaaa
