/-
 Texts of this claim laid together: TC.
-/
import Derived.Test.YtmcjklicepaiaaaPk23
import Derived.Test.YtmcjklicepaiaaaPk29
set_option linter.unusedVariables false
set_option linter.unusedSimpArgs false
namespace Go.Proofs.Ytmcjklicepaiaaa
def tbl5List5:List (List Nat):=[[],[],[],[1,2],[1,2,3],[1,2,3,4],[],[],[6,7],[6,7,8],[6,7,8,9],[],[],[11,12],[11,12,13],[11,12,13,14],[11,12,13,14,15],[1,2,3,4,5,6,7,8,9,10,11,12,13,14,15,16],[1,2,3,4,5,6,7,8,9,10,11,12,13,14,15,16,17],[0,1,2,3,4,5,6,7,8,9,10,11,12,13,14,15,16,17,18],[0,1,2,3,4,5,6,7,8,9,10,11,12,13,14,15,16,17,18,19]]
open Go.RowKit Go.ChangeShapes Go.WideShapes
set_option maxRecDepth 100000 in
set_option maxHeartbeats 3200000 in
theorem l5List_o (v:Value) (l:List Job) (fp:List Nat) (hs:l.length<=1048576) (hd4:∀ j,j∈l->j.rsp.data.length<=4) (w:World) (g:SlR 5 jobR w l v fp) :
 Calls Try.prog 140 #[v] w fun e w'=>∃ v',e = .returned v'∧OwnE 5 jobR 64 w.heap.size w' v' l∧Below w.heap.size w w':=by
 obtain ⟨a,n,cap,rfl,hn,hcap,hmax,hcm,r⟩:=g.opened;have hns:n<=1048576:=by rw [<- hn.out];exact hs
 have HS4:=Lib.hid hd4;clear g hs hd4;obtain ⟨i0,hi,hz0,hz1,hz2⟩:=info_parts infoJob;go_enter Try.func140,Try.ntmps140
 go_wp2_with fail
 go_loopw [3,4] (fun v i wr=>∃ k:Nat,k<=n∧i = .int .i64 k∧OwnE 5 jobR 64 w.heap.size wr v (l.take k)∧Below w.heap.size w wr) (fun _ i _=>n - (intOf i).toNat)
 case atStart=>exact ⟨0,Nat.zero_le _,rfl,by simpa using OwnE.lit w (Nat.le_refl _),below_alloc _ _⟩
 case round =>
  obtain ⟨k,hk,rfl,hown,hbel⟩:=hrel;have hml:(l.take k).length<=1048576:=by have:=List.length_take_le k l;omega
  have HO:=Lib.hid hown;have HB:=Lib.hid hbel;clear hown;by_cases hlt:k<n
  ·have hlti:(k:Int)<(n:Int):=by omega
   obtain ⟨i1,b1,o1,f1,cs,rfl,hb1,_,_,⟨dv,df,rfl,rfl,hd⟩,e1⟩:=r k hlt;obtain ⟨da,dn,dc,rfl⟩:=hd.form;have c0:=keep_cell hbel (e1 0 (by simp));have c1:=keep_cell hbel (e1 1 (by simp));have c2:=keep_cell hbel (e1 2 (by simp));have c3:=keep_cell hbel (e1 3 (by simp));have c4:=keep_cell hbel (e1 4 (by simp));simp only [Nat.add_zero,List.getElem_cons_zero,List.getElem_cons_succ] at c0 c1 c2 c3 c4;have GD:=Lib.hid (SlR.below intR_fits hd hbel);have SD:Hid (l[k].rsp.data.length<=1048576):=Lib.hid (by have:=HS4.out _ (List.getElem_mem i1);omega);have htk:l.take (k+1)=l.take k++[l[k]]:=List.take_succ_eq_append_getElem i1;obtain ⟨y,hy⟩:∃ z,z=l[k]:=⟨_,rfl⟩;rw [<- hy] at c0 c1 c2 c3 htk GD SD;have HTK:=Lib.hid htk;clear r e1 hbel hd hy htk;go_wp2_with fail
   have hst:∀ F,F∈[FEq (u3),FEq (.slice (some ⟨b1,o1,none⟩) n cap),FEq (.int .i64 (k:Int)),FEq (.pointer (some ⟨b1,o1+k*5,none⟩)),FEq (.pointer (some ⟨b1,o1+k*5,none⟩)),FEq (.int .i64 y.who),FEq (.slice (some ⟨b1,o1,none⟩) n cap),FEq (.int .i64 (k:Int)),FEq (.pointer (some ⟨b1,o1+k*5,none⟩)),FEq (.pointer (some ⟨b1,o1+k*5+1,none⟩)),FEq (.int .i64 y.n),FEq (.slice (some ⟨b1,o1,none⟩) n cap),FEq (.int .i64 (k:Int)),FEq (.pointer (some ⟨b1,o1+k*5,none⟩)),FEq (.pointer (some ⟨b1,o1+k*5+2,none⟩)),FEq (.agg #[.int .i64 y.rsp.id,.int .i64 y.rsp.code,.slice da dn dc]),FRspN wr y.rsp,FJobN wr y,FEl1 wr jobR y]->Stable [] F:=by repeat first|exact st_nil|refine st_eq ?_|refine st_cons (by first|exact stRspN _ _|exact stJobN _ _|exact stEl1 jobR_fits _ _) ?_
   refine wp_tailH hst tbl5List5 (fun _ w'=>Below wr.heap.size wr w') 33 21 19 [some 12,some 13,some 14,some 15,some 16,some 17,some 18,some 19,some 20,some 21,some 22,some 23,some 24,some 25,some 26,some 27,some 28,some 29,some 30] _ [] ?h0 ?hop ?hend
   case h0=>exact (Below.refl _ _).drew
   case hop =>
    refine ⟨⟨⟨⟨⟨⟨⟨⟨⟨⟨⟨⟨⟨⟨⟨⟨⟨⟨⟨trivial,?_⟩,?_⟩,?_⟩,?_⟩,?_⟩,?_⟩,?_⟩,?_⟩,?_⟩,?_⟩,?_⟩,?_⟩,?_⟩,?_⟩,?_⟩,?_⟩,?_⟩,?_⟩,?_⟩
    ·exact Owes.k0 33 [(3,u3)]
    ·exact Owes.k0 33 [(0,.slice (some ⟨b1,o1,none⟩) n cap)]
    ·exact Owes.k0 33 [(4,.int .i64 (k:Int))]
    ·exact Owes.k2 33 13 1 14 2
    ·exact Owes.k1 33 15 3
    ·exact Owes.c1 33 16 4 c0
    ·exact Owes.k0 33 [(0,.slice (some ⟨b1,o1,none⟩) n cap)]
    ·exact Owes.k0 33 [(4,.int .i64 (k:Int))]
    ·exact Owes.k2 33 18 6 19 7
    ·exact Owes.k1 33 20 8
    ·exact Owes.c1 33 21 9 c1
    ·exact Owes.k0 33 [(0,.slice (some ⟨b1,o1,none⟩) n cap)]
    ·exact Owes.k0 33 [(4,.int .i64 (k:Int))]
    ·exact Owes.k2 33 23 11 24 12
    ·exact Owes.k1 33 25 13
    ·refine Owes.q 33 (fun u=>[(26,u 14)]) fun u w' hI hR=>?_;dsimp only [frm,List.foldl,List.replicate,List.set];obtain ⟨_,hI⟩:=hI;have k2:=keep_cell hI c2;have k3:=keep_cell hI c3;have k4:=keep_cell hI c4;have e14:u 14=_:=hR 14 (by decide);rw [e14];clear hI hst hR;go_wp2;exact ⟨rfl,_,rfl,rfl,rfl⟩
    ·refine Owes.mk _ rfl rfl (fun _ _ h=>by cases h) fun u m w' hm hI hR=>⟨⟨(frm 33 [(27,u 15)]).toArray,[]⟩,rfl,fun d hd=>by cases hd;exact frm_lt (by decide),?_⟩;dsimp only [frm,List.foldl,List.replicate,List.set];have e15:u 15=_:=hR 15 (by decide);rw [e15];clear e15;have GG:=Lib.hid (SlR.below intR_fits GD.out hI);have HI:=Lib.hid hI;clear hI hR;go_wp2_with fail
     refine (l5Rsp_any y.rsp _ _ SD.out _ GG.out).mono ?_;rintro e w7 ⟨v7,f7,rfl,s7,n7,b7⟩;have HX:=Lib.hid s7;have HN:Hid (New f7 wr w7):=Lib.hid ⟨fun b hb=>Nat.le_trans HI.out.size (n7.lo b hb),n7.once,n7.free⟩;have HS7:=Lib.hid (facts_stable hst (b7.chg []));have HI7:=Lib.hid (HI.out.trans (b7.mono HI.out.size));clear b7 hst s7 n7;go_wp2;exact ⟨rfl,_,rfl,⟨_,f7,rfl,HX.out,HN.out⟩,HI7.out,HS7.out⟩
    ·refine Owes.mk _ rfl rfl (fun _ _ h=>by cases h) fun u m w' hm hI hR=>⟨⟨(frm 33 [(17,u 5),(22,u 10),(28,u 16)]).toArray,[]⟩,rfl,fun d hd=>by cases hd;exact frm_lt (by decide),?_⟩;dsimp only [frm,List.foldl,List.replicate,List.set];have e5:u 5=_:=hR 5 (by decide);have e10:u 10=_:=hR 10 (by decide);rw [e5,e10];clear e5 e10;obtain ⟨dv,f,e16,s16,n16⟩:=hR 16 (by decide);rw [e16];have HX:=Lib.hid s16;have HN:=Lib.hid n16;have HI:=Lib.hid hI;clear hI hst hR e16 s16 n16;go_wp2;exact ⟨rfl,_,rfl,⟨_,f,rfl,HX.out,HN.out⟩,HI.out,fun _ _ h=>h⟩
    ·refine Owes.mk _ rfl rfl (fun _ _ h=>by cases h) fun u m w' hm hI hR=>⟨⟨(frm 33 [(29,u 17)]).toArray,[]⟩,rfl,fun d hd=>by cases hd;exact frm_lt (by decide),?_⟩;dsimp only [frm,List.foldl,List.replicate,List.set];obtain ⟨dv,f,e17,s17,n17⟩:=hR 17 (by decide);rw [e17];obtain ⟨ea,en,ec,rfl⟩:=s17.form;have HI:=Lib.hid hI;have hba:=below_alloc w' (.cells #[.int .i64 y.who,.int .i64 y.n,.int .i64 y.rsp.id,.int .i64 y.rsp.code,.slice ea en ec] 64);have HX:=Lib.hid (SlR.below intR_fits s17 hba);have HN:=Lib.hid (n17.later (s17.lt intR_fits) (hba.chg []));have HS8:=Lib.hid (facts_stable hst (hba.chg []));have HB8:=Lib.hid (hI.trans (hba.mono hI.size));clear hI hst hR e17 s17 n17 hba;go_wp2;exact ⟨rfl,_,rfl,⟨_,_,f,rfl,⟨_,_,rfl,rfl,HX.out⟩,HN.out,fun b hb=>HX.out.lt intR_fits b hb,by simp,rfl,fun j hj=>by rw [add_plain,Nat.zero_add];exact alloc1_new _ _ _ j (by rw [<- Array.getElem?_toList];exact List.getElem?_eq_getElem hj),by simp [Value.oneCell']⟩,HB8.out,HS8.out⟩
   case hend =>
    intro u w' hI hR;simp only [setAll,List.set_cons_zero,List.set_cons_succ];have e0:u 0=_:=hR 0 (by decide);obtain ⟨A,cs,f,e18,h1,h2,h3,h4,h5,h6,h7⟩:=hR 18 (by decide);rw [e0,e18];refine wpList_pushP (R:=jobR) (K:=5) (W:=wr) (l:=l.take k) (x:=y) rfl _ _ 56 64 i0 (.agg #[.int .i64 0,.int .i64 0,.int .i64 0,.int .i64 0,.slice none 0 0]) 56 jobR_fits rfl Try.underlying56 hi hz0 hz1 hz2 rfl (by decide) (by decide) rfl rfl HO.out hI h1 h2 h6 h7 (by omega) HB.out.size ?_;intro v' w6 ho hb hb';have HO2:=Lib.hid ho;have HB2:=Lib.hid (HB.out.trans hb);clear hR hst e0 e18 h1 h2 h3 h4 h5 h6 h7 hI ho hb hb' c0 c1 c2 c3 c4;go_wp2
    go_roundw
    case rel=>exact ⟨k+1,by omega,by go_num,by rw [HTK.out];exact HO2.out,HB2.out⟩
    case measure=>simp [intOf];omega
  ·have hall:l.take k=l:=List.take_of_length_le (by rw [hn.out];omega);have ho:=HO.out;rw [hall] at ho;have HG1:=Lib.hid ho;clear r hbel ho hall;go_wp2;go_ret;exact ⟨_,rfl,HG1.out,HB.out⟩
set_option maxRecDepth 100000 in
set_option maxHeartbeats 3200000 in
theorem l2Copy_b (ms:List Int) (v:Value) (fp:List Nat) (hs:ms.length<=1000) (w:World) (g:SlR 1 intR w ms v fp) :
 Calls Try.prog 152 #[.agg #[v]] w fun e w'=>∃ v' fp',e = .returned (.agg #[v'])∧SlR 1 intR w' ms v' fp'∧New fp' w w'∧Below w.heap.size w w':=by
 obtain ⟨a,n,c,rfl⟩:=g.form;obtain ⟨i0,hi,hz0,hz1,hz2⟩:=info_parts infoInt;have hn:ms.length=n:=by
  have h':=g;obtain ⟨_,_,_,e,h2,_⟩:=h';cases e;exact h2
 obtain ⟨w0,hw0⟩:∃ z,z=(w.alloc (.cells #[.slice a n c] 66)).alloc (.cells #[.slice none 0 0] 66):=⟨_,rfl⟩;have b0:Below w.heap.size w w0:=by rw [hw0];exact (below_alloc _ _).trans ((below_alloc _ _).mono (by simp))
 have c0:w0.cell? ⟨w.heap.size,0,none⟩=some (.slice a n c):=by rw [hw0];exact alloc2_old _ _ _ _ _ 0 rfl
 have r0:RoomAt (w.heap.size+1) 1 w0:=by rw [hw0];exact room_alloc (by simp) (by simp)
 have G:=Lib.hid (SlR.below intR_fits g b0);have B:=Lib.hid b0;have R:=Lib.hid r0;clear g b0 r0;go_enter Try.func152,Try.ntmps152
 go_upto_region 1 with fail
 rw [<- hw0];clear hw0;have ba:=below_alloc w0 (.cells #[] 3);have c0:=keep_cell ba c0;have GG:SlR 1 (flatR IntC) (w0.alloc (.cells #[] 3)) ms (.slice a n c) fp:=SlR.below intR_fits G.out ba;have OL:OwnR 1 IntC 3 w0.heap.size (w0.alloc (.cells #[] 3)) (.slice (some ⟨w0.heap.size,0,none⟩) 0 0) []:=OwnR.lit w0 #[] 0 [] IntC_len rfl rfl (Nat.le_refl _) (Nat.zero_le _);have HGG:=Lib.hid GG;have HOL:=Lib.hid OL;have hmx:n<=2000000:=by omega
 have hsz:=Lib.hid (show w0.heap.size<=(w0.alloc (.cells #[] 3)).heap.size by simp);have R2:=Lib.hid (R.out.below ba);have B2:=Lib.hid (B.out.trans (ba.mono B.out.size));clear GG OL ba;go_wp2_with (at_builtin;refine wpList_append_lit (K:=1) (c:=IntC) (news:=ms) rfl _ _ 24 3 i0 (.int .i64 0) 8 IntC_len rfl Try.underlying24 hi hz0 hz1 hz2 rfl (by decide) (by decide) rfl rfl HOL.out HGG.out hsz.out hmx ?_;intro v' w2 ho hb;obtain ⟨va,vn,vc,rfl,_⟩:=OwnR.slice ho;obtain ⟨_,hr,f⟩:=R2.out.below hb;obtain ⟨y0,p0⟩:=hr 0 (by omega);have f0:=f 0;clear hr;have HO:=Lib.hid ho;have HB:=Lib.hid (B2.out.trans (hb.mono B2.out.size));clear f ho hb HGG HOL)
 have hc:Chg [w.heap.size+1] w2 (w2.setCell ⟨w.heap.size+1,0,none⟩ (.slice va vn vc)):=store_chg _;obtain ⟨fp',g1,g2,g3,g4⟩:=intRow_reads HO.out;have hz:=B.out.size;have hz2:=R.out.1;have hd:∀ b,b∈fp'->b∉[w.heap.size+1]:=fun b hb hm=>by have:=g2 b hb;simp at hm;omega
 exact bodyPost_ret (v:=.agg #[.slice va vn vc]) (by simp [results,Try.results152,go_sem,setSame1 p0]) rfl ⟨_,fp',rfl,g1.chg intR_fits hc hd,⟨fun b hb=>by have:=g2 b hb;omega,g3,g4.chg (g1.lt intR_fits) hc hd⟩,((HB.out.chg [w.heap.size+1]).trans' hc).home (fun b hb=>by simp at hb;omega)⟩
def FNw {α:Type} (B:Nat) (k:Nat) (R:Pr α) (l:List α):Fact:=fun v w=>∃ fp,SlR k R w l v fp∧∀ b,b∈fp->B<=b
theorem FNw.form {α:Type} {k B:Nat} {R:Pr α} {l:List α} {v:Value} {w:World} (h:FNw B k R l v w):∃ a n c,v = .slice a n c:=by
 obtain ⟨fp,h,_⟩:=h;exact h.form
theorem fin6x {w:World} {b:Nat} {u0 u1 u2 u3 u4 u5:Value} (x0 x1 x2 x3 x4 x5:Value)
 (h0:w.cell? ⟨b,0,none⟩=some u0) (h1:w.cell? ⟨b,1,none⟩=some u1) (h2:w.cell? ⟨b,2,none⟩=some u2) (h3:w.cell? ⟨b,3,none⟩=some u3) (h4:w.cell? ⟨b,4,none⟩=some u4) (h5:w.cell? ⟨b,5,none⟩=some u5) :
 (w.setCell ⟨b,0,none⟩ x0).cell? ⟨b,0,none⟩=some x0∧((w.setCell ⟨b,0,none⟩ x0).setCell ⟨b,1,none⟩ x1).cell? ⟨b,1,none⟩=some x1∧(((w.setCell ⟨b,0,none⟩ x0).setCell ⟨b,1,none⟩ x1).setCell ⟨b,2,none⟩ x2).cell? ⟨b,2,none⟩=some x2 ∧
 ((((w.setCell ⟨b,0,none⟩ x0).setCell ⟨b,1,none⟩ x1).setCell ⟨b,2,none⟩ x2).setCell ⟨b,3,none⟩ x3).cell? ⟨b,3,none⟩=some x3∧(((((w.setCell ⟨b,0,none⟩ x0).setCell ⟨b,1,none⟩ x1).setCell ⟨b,2,none⟩ x2).setCell ⟨b,3,none⟩ x3).setCell ⟨b,4,none⟩ x4).cell? ⟨b,4,none⟩=some x4 ∧
 ((((((w.setCell ⟨b,0,none⟩ x0).setCell ⟨b,1,none⟩ x1).setCell ⟨b,2,none⟩ x2).setCell ⟨b,3,none⟩ x3).setCell ⟨b,4,none⟩ x4).setCell ⟨b,5,none⟩ x5).cell? ⟨b,5,none⟩=some x5∧Chg [b] w ((((((w.setCell ⟨b,0,none⟩ x0).setCell ⟨b,1,none⟩ x1).setCell ⟨b,2,none⟩ x2).setCell ⟨b,3,none⟩ x3).setCell ⟨b,4,none⟩ x4).setCell ⟨b,5,none⟩ x5) :=
 ⟨setSame _ h0,setSame _ (setOther _ (by decide) h1),setSame _ (setOther _ (by decide) (setOther _ (by decide) h2)),setSame _ (setOther _ (by decide) (setOther _ (by decide) (setOther _ (by decide) h3))),setSame _ (setOther _ (by decide) (setOther _ (by decide) (setOther _ (by decide) (setOther _ (by decide) h4)))),
  setSame _ (setOther _ (by decide) (setOther _ (by decide) (setOther _ (by decide) (setOther _ (by decide) (setOther _ (by decide) h5))))),(((((store_chg _).trans' (store_chg _)).trans' (store_chg _)).trans' (store_chg _)).trans' (store_chg _)).trans' (store_chg _)⟩
end Go.Proofs.Ytmcjklicepaiaaa
