/-
 Texts of this claim laid together: DoP Do1 Do2.
-/
import Derived.Test.YtmcjklicepaiaaaPk12
import Derived.WalkSmall
import Derived.Deep.DeepCutAuto
import Derived.Deep.CutBlock
set_option linter.unusedVariables false
set_option linter.unusedSimpArgs false
namespace Go.Proofs.Ytmcjklicepaiaaa
open Go.RowKit
def getW (m:List Int) (a:Int):Int:=(m[a.toNat]?).getD 0
theorem getW_at {m:List Int} {i:Nat} (h:i<m.length):getW m i=m[i]:=by simp [getW,h]
def l2get (m ads:List Int):List Int:=ads.map (getW m)
theorem l2get_succ (m:List Int) {ads:List Int} {k:Nat} (h:k<ads.length):l2get m (ads.take (k+1))=l2get m (ads.take k)++[getW m ads[k]]:=by
 unfold l2get;rw [List.take_succ_eq_append_getElem h,List.map_append];rfl
def putTo (m ads data lanes:List Int):Nat->List Int
 | 0=>m
 | k+1=>(putTo m ads data lanes k).set ((ads[k]?).getD 0).toNat (wrdPut (getW (putTo m ads data lanes k) ((ads[k]?).getD 0)) ((data[k]?).getD 0) ((lanes[k]?).getD 0))
theorem putTo_len (m ads data lanes:List Int):∀ k,(putTo m ads data lanes k).length=m.length
 | 0=>rfl
 | k+1=>by rw [putTo,List.length_set];exact putTo_len m ads data lanes k
theorem putTo_succ {m ads data lanes:List Int} {k i:Nat} (h1:k<ads.length) (h2:k<data.length) (h3:k<lanes.length) (hi:ads[k]=i) (hm:i<m.length) :
 putTo m ads data lanes (k+1)=(putTo m ads data lanes k).set i (wrdPut ((putTo m ads data lanes k)[i]'(by rw [putTo_len];exact hm)) data[k] lanes[k]):=by
 have e1:(ads[k]?).getD 0=i:=by simp [h1,hi]
 have e2:(data[k]?).getD 0=data[k]:=by simp [h2]
 have e3:(lanes[k]?).getD 0=lanes[k]:=by simp [h3]
 rw [putTo,e1,e2,e3,getW_at (by rw [putTo_len];exact hm)];rfl
def l2put (m ads data lanes:List Int):List Int:=putTo m ads data lanes ads.length
def frH (ads:List Int) (x:Int):Int:=if x∈ads then -1 else x
def freeH (h ads:List Int):List Int:=h.map (frH ads)
def freeTo (h ads:List Int) (k j:Nat):List Int:=h.mapIdx fun i x=>frH (if i<k then ads else if i=k then ads.take j else []) x
theorem freeTo_len (h ads:List Int) (k j:Nat):(freeTo h ads k j).length=h.length:=by simp [freeTo]
theorem freeTo_zero (h ads:List Int):freeTo h ads 0 0=h:=by
 refine List.ext_getElem (by simp [freeTo]) fun i h1 h2=>?_;simp [freeTo,frH]
theorem freeTo_at {h ads:List Int} {k j:Nat} (hk:k<h.length):(freeTo h ads k j)[k]'(by rw [freeTo_len];exact hk)=frH (ads.take j) h[k]:=by simp [freeTo]
theorem freeTo_next (h ads:List Int) (k:Nat):freeTo h ads k ads.length=freeTo h ads (k+1) 0:=by
 refine List.ext_getElem (by simp [freeTo]) fun i h1 h2=>?_;simp only [freeTo,List.getElem_mapIdx,List.take_length,List.take_zero];by_cases e:i<k
 ·simp [e,show i<k+1 by omega]
 ·by_cases e2:i=k
  ·simp [e2]
  ·simp [e,e2,show ¬ i<k+1 by omega]
theorem freeTo_all {h ads:List Int} {k:Nat} (hk:h.length<=k):freeTo h ads k 0=freeH h ads:=by
 refine List.ext_getElem (by simp [freeTo,freeH]) fun i h1 h2=>?_;have:i<k:=by rw [freeTo_len] at h1;omega
 simp [freeTo,freeH,this]
theorem mem_take_succ {ads:List Int} {j:Nat} {x:Int} (hj:j<ads.length):x∈ads.take (j+1) ↔ x∈ads.take j∨x=ads[j]:=by
 rw [List.take_succ_eq_append_getElem hj,List.mem_append,List.mem_singleton]
theorem frH_hit {ads:List Int} {j:Nat} {x:Int} (hj:j<ads.length) (h:frH (ads.take j) x=ads[j]):frH (ads.take (j+1)) x = -1:=by
 unfold frH at *;by_cases e:x∈ads.take j
 ·rw [if_pos ((mem_take_succ hj).2 (.inl e))]
 ·rw [if_neg e] at h;rw [if_pos ((mem_take_succ hj).2 (.inr h))]
theorem frH_miss {ads:List Int} {j:Nat} {x:Int} (hj:j<ads.length) (h:frH (ads.take j) x≠ads[j]):frH (ads.take (j+1)) x=frH (ads.take j) x:=by
 unfold frH at *;by_cases e:x∈ads.take j
 ·rw [if_pos ((mem_take_succ hj).2 (.inl e)),if_pos e]
 ·rw [if_neg e] at h;rw [if_neg (fun hm=>((mem_take_succ hj).1 hm).elim e h),if_neg e]
theorem freeTo_set {h ads:List Int} {k j j':Nat} {z:Int} (hk:k<h.length) (hz:frH (ads.take j') h[k]=z):freeTo h ads k j'=(freeTo h ads k j).set k z:=by
 refine List.ext_getElem (by simp [freeTo]) fun i h1 h2=>?_;rw [List.getElem_set];by_cases e:k=i
 ·subst e;simp [freeTo,hz]
 ·rw [if_neg e];simp only [freeTo,List.getElem_mapIdx];by_cases e2:i<k
  ·simp [e2]
  ·simp [e2,show ¬ i=k by omega]
theorem freeTo_hit {h ads:List Int} {k j:Nat} (hk:k<h.length) (hj:j<ads.length) (he:(freeTo h ads k j)[k]'(by rw [freeTo_len];exact hk)=ads[j]):freeTo h ads k (j+1)=(freeTo h ads k j).set k (-1):=by
 rw [freeTo_at hk] at he;exact freeTo_set hk (frH_hit hj he)
theorem freeTo_miss {h ads:List Int} {k j:Nat} (hk:k<h.length) (hj:j<ads.length) (he:(freeTo h ads k j)[k]'(by rw [freeTo_len];exact hk)≠ads[j]):freeTo h ads k (j+1)=freeTo h ads k j:=by
 have h1:=freeTo_at (ads:=ads) (j:=j) hk;rw [h1] at he;rw [freeTo_set (j:=j) hk (frH_miss hj he),<- h1];exact List.set_getElem_self _
def onlyAt (l:List MR) (k:Int):Bool:=((l[k.toNat]?).map MR.only).getD false
theorem onlyAt_at {l:List MR} {i:Nat} (h:i<l.length):onlyAt l i=l[i].only:=by simp [onlyAt,h]
structure DoR where
 mem:List Int
 holds:List Int
 code:Int
 data:List Int
def atmDo (l:List MR) (m h:List Int) (who:Int) (r:Req):DoR :=
 if wholeIx l (burstOf r)<0 then ⟨m,h,4,[]⟩
 else if writesB r=true∧onlyAt l (wholeIx l (burstOf r))=true then ⟨m,h,3,[]⟩
 else if r.kind=1 then ⟨m,h,1,l2get m (burstOf r)⟩
 else if r.kind=3 then ⟨m,h.set (who*2+r.id).toNat r.addr,2,l2get m (burstOf r)⟩
 else if r.kind=4 then
  if getW h (who*2+r.id)=r.addr then ⟨l2put m (burstOf r) r.data r.lanes,freeH h (burstOf r),2,[]⟩ else ⟨m,h,1,[]⟩
 else ⟨l2put m (burstOf r) r.data r.lanes,freeH h (burstOf r),1,[]⟩
theorem atmDo_mem (l:List MR) (m h:List Int) (who:Int) (r:Req):(atmDo l m h who r).mem.length=m.length:=by
 unfold atmDo
 repeat' split
 all_goals first|rfl|exact putTo_len _ _ _ _ _
theorem atmDo_holds (l:List MR) (m h:List Int) (who:Int) (r:Req):(atmDo l m h who r).holds.length=h.length:=by
 unfold atmDo
 repeat' split
 all_goals first|rfl|simp [freeH]
end Go.Proofs.Ytmcjklicepaiaaa
namespace Go.Proofs.Ytmcjklicepaiaaa
def tbl2Get5:List (List Nat):=[[],[],[1],[],[],[3,4],[3,4,5],[1,2,3,4,5,6],[1,2,3,4,5,6,7],[1,2,3,4,5,6,7,8],[0,1,2,3,4,5,6,7,8,9],[0,1,2,3,4,5,6,7,8,9,10]]
def tbl2Put4:List (List Nat):=[[],[0],[],[],[2,3],[2,3,4],[],[6],[],[],[8,9],[8,9,10],[6,7,8,9,10,11],[6,7,8,9,10,11,12],[],[],[14,15],[14,15,16],[],[],[18,19],[18,19,20],[6,7,8,9,10,11,12,13,14,15,16,17,18,19,20,21],[0,1,2,3,4,5,6,7,8,9,10,11,12,13,14,15,16,17,18,19,20,21,22],[0,1,2,3,4,5,6,7,8,9,10,11,12,13,14,15,16,17,18,19,20,21,22,23]]
open Go.RowKit Go.ChangeShapes Go.WideShapes
def NumC (x:Int):List Value:=[.int .i64 x]
theorem NumC_len (x:Int):(NumC x).length=1:=rfl
abbrev NumRow:=OwnR 1 NumC 3
theorem setSame1 {w:World} {b j:Nat} {u v:Value} (h:w.cell? ⟨b,j,none⟩=some u):(w.setCell ⟨b,j,none⟩ v).cell? ⟨b,j,none⟩=some v:=World.cell?_setCell_same _ _ _ h
theorem put2a_0 {w:World} {b:Nat} {u:Value} (s t:Value) (h:w.cell? ⟨b,0,none⟩=some u):((w.setCell ⟨b,0,none⟩ s).setCell ⟨b,1,none⟩ t).cell? ⟨b,0,none⟩=some s :=
 (World.cell?_setCell_other _ _ _ _ (by simp)).trans (World.cell?_setCell_same _ _ _ h)
theorem put2a_1 {w:World} {b:Nat} {u:Value} (s t:Value) (h:w.cell? ⟨b,1,none⟩=some u):((w.setCell ⟨b,0,none⟩ s).setCell ⟨b,1,none⟩ t).cell? ⟨b,1,none⟩=some t :=
 World.cell?_setCell_same _ _ _ ((World.cell?_setCell_other _ _ _ _ (by simp)).trans h)
theorem numRow_reads {w:World} {base:Nat} {v:Value} {l:List Int} (h:NumRow base w v l):∃ fp,SlR 1 intR w l v fp∧(∀ b,b∈fp->base<=b)∧fp.Nodup∧Free fp w:=OwnR.reads NumC_len h
def FLay (u:Value):Fact:=fun v w=>∃ b:Nat,v = .slice (some ⟨b,0,none⟩) 1 1∧w.cell? ⟨b,0,none⟩=some u
theorem stLay (u:Value):Stable [] (FLay u):=fun _ _ _ ⟨b,e,h⟩ hc=>⟨b,e,keep_cell_chg hc h (by simp)⟩
theorem SlR.numAt {w:World} {l:List Int} {a:Option Addr} {n cap:Nat} {fp:List Nat} (h:SlR 1 intR w l (.slice a n cap) fp) {i:Nat} (hi:i<l.length):∃ (b off:Nat),a=some ⟨b,off,none⟩∧b<w.heap.size∧b∈fp∧w.cell? ⟨b,off+i,none⟩=some (.int .i64 l[i])∧l.length=n:=by
 obtain ⟨a',n',cap',e,hn,_,_,_,r⟩:=IntS.opened h;simp only [Value.slice.injEq] at e;obtain ⟨rfl,rfl,rfl⟩:=e;obtain ⟨_,b,off,h1,h2,h3,h4⟩:=r i (by rw [<- hn.out];exact hi);exact ⟨b,off,h1,h2,h3,h4,hn.out⟩
set_option maxRecDepth 100000 in
set_option maxHeartbeats 3200000 in
theorem l2Get_any (ws ads:List Int) (vw va:Value) (fw fa:List Nat) (hws:ws.length=64) (hle:ads.length<=4) (ha:∀ i (h:i<ads.length),0<=ads[i]∧ads[i]<=63) (w:World) (gw:IntS w ws vw fw) (ga:IntS w ads va fa) :
 Calls Try.prog 149 #[.agg #[vw],va] w fun e w'=>∃ v fp,e = .returned v∧IntS w' (l2get ws ads) v fp∧New fp w w'∧Below w.heap.size w w':=by
 obtain ⟨i0,ki,kz0,kz1,kz2⟩:=info_parts infoInt;obtain ⟨aw,nw,cw,rfl⟩:=gw.form;obtain ⟨aa,n,ca,rfl,hn,hcap,hmax,hcm,-⟩:=ga.opened;have hn4:n<=4:=by rw [<- hn.out];exact hle
 obtain ⟨w1,hw1⟩:∃ z,z=w.alloc (.cells #[.slice aw nw cw] 66):=⟨_,rfl⟩;have b1:Below w.heap.size w w1:=by rw [hw1];exact below_alloc _ _
 have z1:w1.heap.size=w.heap.size+1:=by rw [hw1];simp
 have c0:w1.cell? ⟨w.heap.size,0,none⟩=some (.slice aw nw cw):=by rw [hw1];exact alloc1_new _ _ _ 0 rfl
 have GW:=Lib.hid (SlR.below intR_fits gw b1);have GA:=Lib.hid (SlR.below intR_fits ga b1);have B1:=Lib.hid b1;have Z1:=Lib.hid z1;have HW:=Lib.hid hws;have HA:=Lib.hid ha;clear gw ga b1 hws ha hle z1;go_enter Try.func149,Try.ntmps149
 go_upto_region 1 with fail
 rw [<- hw1];clear hw1;go_wp2_with fail
 go_loopw [5,6] (fun v i wr=>∃ k:Nat,k<=n∧i = .int .i64 k∧NumRow w1.heap.size wr v (l2get ws (ads.take k))∧Below w1.heap.size w1 wr) (fun _ i _=>n - (intOf i).toNat)
 case atStart=>exact ⟨0,Nat.zero_le _,rfl,OwnR.lit w1 #[] 0 [] NumC_len (by simp) rfl (Nat.le_refl _) (by simp),below_alloc _ _⟩
 case round =>
  obtain ⟨k,hk,rfl,hown,hbel⟩:=hrel;have HO:=Lib.hid hown;have HB:=Lib.hid hbel;clear hown hbel;by_cases hlt:k<n
  ·have hlti:(k:Int)<(n:Int):=by omega
   have hka:k<ads.length:=by rw [hn.out];exact hlt
   obtain ⟨ba,oa,rfl,hba,-,ea,-⟩:=GA.out.numAt hka;obtain ⟨q,hq⟩:=Int.eq_ofNat_of_zero_le (HA.out k hka).1;have hq63:q<ws.length:=by rw [HW.out];have:=(HA.out k hka).2;omega
   obtain ⟨bw,ow,rfl,hbw,-,ew,hnw⟩:=GW.out.numAt hq63;obtain rfl:nw=64:=by rw [<- hnw,HW.out]
   have hqi:(q:Int)<64:=by rw [HW.out] at hq63;omega
   rw [hq] at ea;have c0:=keep_cell HB.out c0;have cA:=keep_cell HB.out ea;have cW:=keep_cell HB.out ew;have HQ:=Lib.hid hq;clear ea ew hnw hq;go_wp2_with fail
   have hst:∀ F,F∈[FEq (u5),FEq (.pointer (some ⟨w.heap.size,0,none⟩)),FEq (.slice (some ⟨bw,ow,none⟩) 64 cw),FEq (.slice (some ⟨ba,oa,none⟩) n ca),FEq (.int .i64 (k:Int)),FEq (.pointer (some ⟨ba,oa+k,none⟩)),FEq (.int .i64 (q:Int)),FEq (.pointer (some ⟨bw,ow+q,none⟩)),FEq (.int .i64 ws[q]),FLay (.int .i64 ws[q])]->Stable [] F:=by repeat first|exact st_nil|refine st_eq ?_|refine st_cons (by first|exact stLay _) ?_
   refine wp_tailH hst tbl2Get5 (fun _ w'=>Below wr.heap.size wr w') 26 12 10 [some 14,some 15,some 16,some 17,some 18,some 19,some 20,some 21,some 22,some 23] _ [] ?h0 ?hop ?hend
   case h0=>exact (Below.refl _ _).drew
   case hop =>
    refine ⟨⟨⟨⟨⟨⟨⟨⟨⟨⟨trivial,?_⟩,?_⟩,?_⟩,?_⟩,?_⟩,?_⟩,?_⟩,?_⟩,?_⟩,?_⟩
    ·exact Owes.k0 26 [(5,u5)]
    ·exact Owes.k0 26 [(2,.pointer (some ⟨w.heap.size,0,none⟩))]
    ·exact Owes.c1 26 15 1 c0
    ·exact Owes.k0 26 [(1,.slice (some ⟨ba,oa,none⟩) n ca)]
    ·exact Owes.k0 26 [(6,.int .i64 (k:Int))]
    ·exact Owes.k2 26 17 3 18 4
    ·exact Owes.c1 26 19 5 cA
    ·exact Owes.k2 26 16 2 20 6
    ·exact Owes.c1 26 21 7 cW
    ·refine Owes.mk _ rfl rfl (fun _ _ h=>by cases h) fun u m w' hm hI hR=>⟨⟨(frm 26 [(22,u 8)]).toArray,[]⟩,rfl,fun d hd=>by cases hd;exact frm_lt (by decide),?_⟩;dsimp only [frm,List.foldl,List.replicate,List.set];have e8:u 8=_:=hR 8 (by decide);rw [e8];clear e8;have ba_:=below_alloc w' (.cells #[.int .i64 ws[q]] 3);have HS8:=Lib.hid (facts_stable hst (ba_.chg []));have HB8:=Lib.hid (hI.trans (ba_.mono hI.size));clear hI hst hR ba_;go_wp2;exact ⟨rfl,_,rfl,⟨w'.heap.size,rfl,alloc_new _ _ _⟩,HB8.out,HS8.out⟩
   case hend =>
    intro u w' hI hR;simp only [setAll,List.set_cons_zero,List.set_cons_succ];have e0:u 0=_:=hR 0 (by decide);obtain ⟨b9,e9,c9⟩:=hR 9 (by decide);rw [e0,e9];have HOw:=Lib.hid (HO.out.below hI);have HBw:=Lib.hid (HB.out.trans (hI.mono HB.out.size));have C9:=Lib.hid c9;have hlen:(l2get ws (ads.take k)).length<=2000000:=by simp [l2get];omega
    clear hR hI hst e0 e9 c9 HO HB c0 cA cW;refine wpList_appendR (K:=1) (c:=NumC) (l:=l2get ws (ads.take k)) (news:=[ws[q]]) (base:=w1.heap.size) rfl _ _ 24 3 i0 (.int .i64 0) 8 NumC_len rfl Try.underlying24 ki kz0 kz1 kz2 rfl (by decide) (by decide) rfl rfl HOw.out rfl (fun j u hj=>by
     have hj0:j=0:=by have:=(List.getElem?_eq_some_iff.1 hj).1;simpa [NumC] using this
     subst hj0;simp [NumC] at hj;subst hj;exact C9.out) (by simp [NumC,Value.oneCell']) hlen (by omega) HBw.out.size ?_
    intro v' w2 hown hg;have HB2:=Lib.hid (HBw.out.trans (grown_below HOw.out hg HBw.out.size));have HO2:=Lib.hid hown;clear hown hg;go_wp2
    go_roundw
    case rel=>exact ⟨k+1,by omega,by go_num,by rw [l2get_succ _ hka,HQ.out,getW_at hq63];exact HO2.out,HB2.out⟩
    case measure=>simp [intOf];omega
  ·have hkn:k=n:=by omega
   have hall:ads.take k=ads:=List.take_of_length_le (by rw [hn.out];omega);have ho:=HO.out;rw [hall] at ho;obtain ⟨fp',g1,g2,g3,g4⟩:=numRow_reads ho;have HG1:=Lib.hid g1;have HG2:Hid (∀ b,b∈fp'->w.heap.size<=b):=Lib.hid (fun b hb=>by have:=g2 b hb;have:=Z1.out;omega);have HG3:=Lib.hid g3;have HG4:=Lib.hid g4;have HBw:=Lib.hid (B1.out.trans (HB.out.mono B1.out.size));clear ho hall g1 g2 g3 g4 HB c0;go_wp2;go_ret;exact ⟨_,fp',rfl,HG1.out,⟨HG2.out,HG3.out,HG4.out⟩,HBw.out⟩
set_option maxRecDepth 100000 in
set_option maxHeartbeats 3200000 in
theorem l2Put_any (ws ads data lanes:List Int) (vw va vd vl:Value) (fw fa fd fl:List Nat) (hws:ws.length=64) (hle:ads.length<=4) (hd:data.length=ads.length) (hl:lanes.length=ads.length) (ha:∀ i (h:i<ads.length),0<=ads[i]∧ads[i]<=63) (w:World)
 (gw:IntS w ws vw fw) (ga:IntS w ads va fa) (gd:IntS w data vd fd) (gl:IntS w lanes vl fl) (fr:Free fw w) (na:∀ b,b∈fa->b∉fw) (nd:∀ b,b∈fd->b∉fw) (nl:∀ b,b∈fl->b∉fw) :
 Calls Try.prog 150 #[.agg #[vw],va,vd,vl] w fun e w'=>e = .returned (.agg #[vw])∧IntS w' (l2put ws ads data lanes) vw fw∧Chg fw w w'∧Free fw w':=by
 obtain ⟨aw,nw,cw,rfl⟩:=gw.form;obtain ⟨aa,n,ca,rfl,hn,hcap,hmax,hcm,-⟩:=ga.opened;obtain ⟨ad,nd',cd,rfl⟩:=gd.form;obtain ⟨al,nl',cl,rfl⟩:=gl.form;have hn4:n<=4:=by rw [<- hn.out];exact hle
 obtain ⟨w1,hw1⟩:∃ z,z=(w.alloc (.cells #[.slice aw nw cw] 66)).alloc (.cells #[.slice none 0 0] 66):=⟨_,rfl⟩;have b1:Below w.heap.size w w1:=by rw [hw1];exact (below_alloc _ _).trans ((below_alloc _ _).mono (by simp))
 have z1:w1.heap.size=w.heap.size+1+1:=by rw [hw1];simp
 have c0:w1.cell? ⟨w.heap.size,0,none⟩=some (.slice aw nw cw):=by rw [hw1];exact alloc2_old _ _ _ _ _ 0 rfl
 have r0:w1.cell? ⟨w.heap.size+1,0,none⟩=some (.slice none 0 0):=by rw [hw1];exact alloc2_new _ _ _ _ _ 0 rfl
 have rf:w1.frozen? ⟨w.heap.size+1,0,none⟩=false:=by rw [hw1];exact World.frozen?_alloc_at _ _ _ _ (by simp)
 have hlt0:∀ b,b∈fw->b<w.heap.size:=gw.lt intR_fits;have n0:w.heap.size∉fw:=fun hm=>by have:=hlt0 _ hm;omega
 have n1:w.heap.size+1∉fw:=fun hm=>by have:=hlt0 _ hm;omega
 have GW:=Lib.hid (SlR.below intR_fits gw b1);have GA:=Lib.hid (SlR.below intR_fits ga b1);have GD:=Lib.hid (SlR.below intR_fits gd b1);have GL:=Lib.hid (SlR.below intR_fits gl b1);have FR:=Lib.hid (Free.below fr hlt0 b1);have B1:=Lib.hid b1;have Z1:=Lib.hid z1;have HW:=Lib.hid hws;have HA:=Lib.hid ha;have HD:=Lib.hid hd;have HL:=Lib.hid hl;have NA:=Lib.hid na;have ND:=Lib.hid nd;have NL:=Lib.hid nl;clear z1 gw ga gd gl fr b1 hws ha hle hd hl na nd nl hlt0;go_enter Try.func150,Try.ntmps150
 go_upto_region 1 with fail
 rw [<- hw1];clear hw1;go_wp2_with fail
 go_loopw [9] (fun i wr=>∃ k:Nat,k<=n∧i = .int .i64 k∧IntS wr (putTo ws ads data lanes k) (.slice aw nw cw) fw∧Chg fw w1 wr∧Free fw wr) (fun i _=>n - (intOf i).toNat)
 case atStart=>exact ⟨0,Nat.zero_le _,rfl,GW.out,Chg.refl _ _,FR.out⟩
 case round =>
  obtain ⟨k,hk,rfl,gi,hc,hf⟩:=hrel;have GI:=Lib.hid gi;have HC:=Lib.hid hc;have HF:=Lib.hid hf;clear gi hc hf;by_cases hlt:k<n
  ·have hlti:(k:Int)<(n:Int):=by omega
   have hka:k<ads.length:=by rw [hn.out];exact hlt
   have hkd:k<data.length:=by rw [HD.out];exact hka
   have hkl:k<lanes.length:=by rw [HL.out];exact hka
   obtain ⟨ba,oa,rfl,hba,ma,ea,-⟩:=GA.out.numAt hka;obtain ⟨bd,od,rfl,hbd,md,ed,hnd⟩:=GD.out.numAt hkd;obtain ⟨bl,ol,rfl,hbl,ml,el,hnl⟩:=GL.out.numAt hkl;obtain rfl:nd'=n:=by rw [<- hnd,HD.out,hn.out]
   obtain rfl:nl'=nd':=by rw [<- hnl,HL.out,hn.out]
   obtain ⟨q,hq⟩:=Int.eq_ofNat_of_zero_le (HA.out k hka).1;have hqw:q<ws.length:=by rw [HW.out];have:=(HA.out k hka).2;omega
   have hqp:q<(putTo ws ads data lanes k).length:=by rw [putTo_len];exact hqw
   obtain ⟨bw,ow,rfl,hbw,mw,cW,hnw⟩:=GI.out.numAt hqp;obtain rfl:nw=64:=by rw [<- hnw,putTo_len,HW.out]
   have hq64:q<64:=by rw [HW.out] at hqw;exact hqw
   have hqi:(q:Int)<64:=by omega
   have hsucc:=putTo_succ hka hkd hkl hq hqw;rw [hq] at ea;have fW:=HF.out bw mw (ow+q);have c0:=keep_cell_chg HC.out c0 n0;have cA:=keep_cell_chg HC.out ea (NA.out _ ma);have cD:=keep_cell_chg HC.out ed (ND.out _ md);have cL:=keep_cell_chg HC.out el (NL.out _ ml);obtain ⟨z,hz⟩:∃ z,z=(putTo ws ads data lanes k)[q]:=⟨_,rfl⟩;rw [<- hz] at cW hsucc;have HS:=Lib.hid hsucc;have HQ:=Lib.hid hq;obtain ⟨d,hd⟩:∃ z,z=data[k]:=⟨_,rfl⟩;obtain ⟨lx,hlx⟩:∃ z,z=lanes[k]:=⟨_,rfl⟩;rw [<- hd] at cD;rw [<- hlx] at cL;have HDX:=Lib.hid hd;have HLX:=Lib.hid hlx;clear ea ed el hnw hnd hnl hq hsucc hz hd hlx ma md ml mw;go_wp2_with fail
   have hst:∀ F,F∈[FEq (.pointer (some ⟨w.heap.size,0,none⟩)),FEq (.slice (some ⟨bw,ow,none⟩) 64 cw),FEq (.slice (some ⟨ba,oa,none⟩) nl' ca),FEq (.int .i64 (k:Int)),FEq (.pointer (some ⟨ba,oa+k,none⟩)),FEq (.int .i64 (q:Int)),FEq (.pointer (some ⟨w.heap.size,0,none⟩)),FEq (.slice (some ⟨bw,ow,none⟩) 64 cw),FEq (.slice (some ⟨ba,oa,none⟩) nl' ca),FEq (.int .i64 (k:Int)),FEq (.pointer (some ⟨ba,oa+k,none⟩)),FEq (.int .i64 (q:Int)),FEq (.pointer (some ⟨bw,ow+q,none⟩)),FEq (.int .i64 z),FEq (.slice (some ⟨bd,od,none⟩) nl' cd),FEq (.int .i64 (k:Int)),FEq (.pointer (some ⟨bd,od+k,none⟩)),FEq (.int .i64 d),FEq (.slice (some ⟨bl,ol,none⟩) nl' cl),FEq (.int .i64 (k:Int)),FEq (.pointer (some ⟨bl,ol+k,none⟩)),FEq (.int .i64 lx),FEq (.int .i64 (wrdPut z d lx)),FEq (.pointer (some ⟨bw,ow+q,none⟩))]->Stable [] F:=by repeat first|exact st_nil|refine st_eq ?_
   refine wp_tailH hst tbl2Put4 (fun _ w'=>Below wr.heap.size wr w') 41 25 24 [some 16,some 17,some 18,some 19,some 20,some 21,some 22,some 23,some 24,some 25,some 26,some 27,some 28,some 29,some 30,some 31,some 32,some 33,some 34,some 35,some 36,some 37,some 38,some 39] _ [] ?h0 ?hop ?hend
   case h0=>exact (Below.refl _ _).drew
   case hop =>
    refine ⟨⟨⟨⟨⟨⟨⟨⟨⟨⟨⟨⟨⟨⟨⟨⟨⟨⟨⟨⟨⟨⟨⟨⟨trivial,?_⟩,?_⟩,?_⟩,?_⟩,?_⟩,?_⟩,?_⟩,?_⟩,?_⟩,?_⟩,?_⟩,?_⟩,?_⟩,?_⟩,?_⟩,?_⟩,?_⟩,?_⟩,?_⟩,?_⟩,?_⟩,?_⟩,?_⟩,?_⟩
    ·exact Owes.k0 41 [(4,.pointer (some ⟨w.heap.size,0,none⟩))]
    ·exact Owes.c1 41 16 0 c0
    ·exact Owes.k0 41 [(1,.slice (some ⟨ba,oa,none⟩) nl' ca)]
    ·exact Owes.k0 41 [(9,.int .i64 (k:Int))]
    ·exact Owes.k2 41 18 2 19 3
    ·exact Owes.c1 41 20 4 cA
    ·exact Owes.k0 41 [(4,.pointer (some ⟨w.heap.size,0,none⟩))]
    ·exact Owes.c1 41 22 6 c0
    ·exact Owes.k0 41 [(1,.slice (some ⟨ba,oa,none⟩) nl' ca)]
    ·exact Owes.k0 41 [(9,.int .i64 (k:Int))]
    ·exact Owes.k2 41 24 8 25 9
    ·exact Owes.c1 41 26 10 cA
    ·exact Owes.k2 41 23 7 27 11
    ·exact Owes.c1 41 28 12 cW
    ·exact Owes.k0 41 [(2,.slice (some ⟨bd,od,none⟩) nl' cd)]
    ·exact Owes.k0 41 [(9,.int .i64 (k:Int))]
    ·exact Owes.k2 41 30 14 31 15
    ·exact Owes.c1 41 32 16 cD
    ·exact Owes.k0 41 [(3,.slice (some ⟨bl,ol,none⟩) nl' cl)]
    ·exact Owes.k0 41 [(9,.int .i64 (k:Int))]
    ·exact Owes.k2 41 34 18 35 19
    ·exact Owes.c1 41 36 20 cL
    ·refine Owes.mk _ rfl rfl (fun _ _ h=>by cases h) fun u m w' hm hI hR=>⟨⟨(frm 41 [(29,u 13),(33,u 17),(37,u 21)]).toArray,[]⟩,rfl,fun d hd=>by cases hd;exact frm_lt (by decide),?_⟩;dsimp only [frm,List.foldl,List.replicate,List.set];have e13:u 13=_:=hR 13 (by decide);have e17:u 17=_:=hR 17 (by decide);have e21:u 21=_:=hR 21 (by decide);rw [e13,e17,e21];clear e13 e17 e21;have HI:=Lib.hid hI;clear hI hst hR;go_wp2_with fail
     refine (sWrdPut_any _ _ _ _).mono ?_;rintro e w5 ⟨rfl,rfl⟩;go_wp2;exact ⟨rfl,_,rfl,rfl,HI.out,fun _ _ h=>h⟩
    ·exact Owes.k2 41 17 1 21 5
   case hend =>
    intro u w' hI hR;simp only [setAll,List.set_cons_zero,List.set_cons_succ];have e22:u 22=_:=hR 22 (by decide);have e23:u 23=_:=hR 23 (by decide);rw [e22,e23];have fW:=keep_free hI (block_of_cell cW) fW;have cW:=keep_cell hI cW;have GIw:=Lib.hid (SlR.below intR_fits GI.out hI);have HCw:=Lib.hid (HC.out.trans' (hI.chg fw));have HFw:=Lib.hid (HF.out.below (fun b hb=>GI.out.lt intR_fits b hb) hI);clear hR hI hst e22 e23 GI HC HF c0 cA cD cL;go_wp2
    go_roundw
    case rel =>
     obtain ⟨t1,t2,t3⟩:=IntS.set GIw.out rfl hq64 (wrdPut z d lx);refine ⟨k+1,by omega,by go_num,?_,HCw.out.trans' t2,HFw.out.setCell _ _⟩;rw [HS.out,<- HDX.out,<- HLX.out];exact t1
    case measure=>simp [intOf];omega
  ·have hkn:k=ads.length:=by rw [hn.out];omega
   have HP:=GI.out;have c0:=keep_cell_chg HC.out c0 n0;have r0:=keep_cell_chg HC.out r0 n1;have rf:=(World.frozen?_of_block (HC.out.block (w.heap.size+1) (by have:=Z1.out;omega) n1)).trans rf;have hch:Chg fw w wr:=(B1.out.chg fw).trans' HC.out;have HP:=Lib.hid HP;have HCH:=Lib.hid hch;have HKN:=Lib.hid hkn;clear HC GI hch hkn;go_wp2;refine bodyPost_ret (v:=.agg #[.slice aw nw cw]) (by simp [results,Try.results150,go_sem,setSame1 r0]) rfl ?_;refine ⟨rfl,?_,(HCH.out.trans (store_chg _)).drop (fun b hb hl=>?_),HF.out.setCell _ _⟩
   ·have:=HP.out;rw [HKN.out] at this;exact this.chg intR_fits (store_chg _) (fun b hb=>by simp;exact fun e=>n1 (e ▸ hb))
   ·rcases List.mem_append.1 hb with hb|hb
    ·exact hb
    ·simp at hb;omega
end Go.Proofs.Ytmcjklicepaiaaa
namespace Go.Proofs.Ytmcjklicepaiaaa
def tbl4Free7:List (List Nat):=[[],[0],[],[0,1,2],[0,1,2,3],[],[],[5,6],[5,6,7],[0,1,2,3,4,5,6,7,8]]
open Go.RowKit Go.ChangeShapes Go.WideShapes
set_option maxRecDepth 100000 in
set_option maxHeartbeats 3200000 in
theorem l4Free_any (hs ads:List Int) (aw:Option Addr) (nw cw:Nat) (vh va:Value) (fh fa:List Nat) (hhs:hs.length=6) (hle:ads.length<=4) (w:World)
 (gh:IntS w hs vh fh) (ga:IntS w ads va fa) (fr:Free fh w) (na:∀ b,b∈fa->b∉fh) :
 Calls Try.prog 151 #[.agg #[.slice aw nw cw,vh],va] w fun e w'=>e = .returned (.agg #[.slice aw nw cw,vh])∧IntS w' (freeH hs ads) vh fh∧Chg fh w w'∧Free fh w':=by
 obtain ⟨ah,nh,ch,rfl⟩:=gh.form;obtain ⟨aa,n,ca,rfl,hn,hcap,hmax,hcm,-⟩:=ga.opened;have hn4:n<=4:=by rw [<- hn.out];exact hle
 obtain ⟨w1,hw1⟩:∃ z,z=(w.alloc (.cells #[.slice aw nw cw,.slice ah nh ch] 68)).alloc (.cells #[.slice none 0 0,.slice none 0 0] 68):=⟨_,rfl⟩;have b1:Below w.heap.size w w1:=by rw [hw1];exact (below_alloc _ _).trans ((below_alloc _ _).mono (by simp))
 have z1:w1.heap.size=w.heap.size+1+1:=by rw [hw1];simp
 have c0:w1.cell? ⟨w.heap.size,0,none⟩=some (.slice aw nw cw):=by rw [hw1];exact alloc2_old _ _ _ _ _ 0 rfl
 have c1:w1.cell? ⟨w.heap.size,1,none⟩=some (.slice ah nh ch):=by rw [hw1];exact alloc2_old _ _ _ _ _ 1 rfl
 have r0:w1.cell? ⟨w.heap.size+1,0,none⟩=some (.slice none 0 0):=by rw [hw1];exact alloc2_new _ _ _ _ _ 0 rfl
 have r1:w1.cell? ⟨w.heap.size+1,1,none⟩=some (.slice none 0 0):=by rw [hw1];exact alloc2_new _ _ _ _ _ 1 rfl
 have rf:∀ o,w1.frozen? ⟨w.heap.size+1,o,none⟩=false:=fun o=>by rw [hw1];exact World.frozen?_alloc_at _ _ _ _ (by simp)
 have hlt0:∀ b,b∈fh->b<w.heap.size:=gh.lt intR_fits;have n0:w.heap.size∉fh:=fun hm=>by have:=hlt0 _ hm;omega
 have n1:w.heap.size+1∉fh:=fun hm=>by have:=hlt0 _ hm;omega
 have GH:=Lib.hid (SlR.below intR_fits gh b1);have GA:=Lib.hid (SlR.below intR_fits ga b1);have FR:=Lib.hid (Free.below fr hlt0 b1);have B1:=Lib.hid b1;have Z1:=Lib.hid z1;have HH:=Lib.hid hhs;have NA:=Lib.hid na;have RF:=Lib.hid rf;have hnh:nh=6:=by
  obtain ⟨b,off,-,-,-,-,e⟩:=SlR.numAt gh (i:=0) (by omega);omega
 subst hnh;clear z1 gh ga fr b1 hhs hle na hlt0 rf;go_enter Try.func151,Try.ntmps151
 go_upto_region 1 with fail
 rw [<- hw1];clear hw1;go_wp2_with fail
 go_loopw [5] (fun i wr=>∃ k:Nat,k<=6∧i = .int .i64 k∧IntS wr (freeTo hs ads k 0) (.slice ah 6 ch) fh∧Chg fh w1 wr∧Free fh wr) (fun i _=>6 - (intOf i).toNat)
 case atStart=>exact ⟨0,by omega,rfl,by rw [freeTo_zero];exact GH.out,Chg.refl _ _,FR.out⟩
 case round =>
  obtain ⟨k,hk,rfl,gi,hc,hf⟩:=hrel;have GI:=Lib.hid gi;have HC:=Lib.hid hc;have HF:=Lib.hid hf;clear gi hc hf;have d0:=keep_cell_chg HC.out c0 n0;have d1:=keep_cell_chg HC.out c1 n0;by_cases hlt:k<6
  ·have hlti:(k:Int)<6:=by omega
   go_wp2_with fail
   go_loopw [6] (fun i wr2=>∃ j:Nat,j<=n∧i = .int .i64 j∧IntS wr2 (freeTo hs ads k j) (.slice ah 6 ch) fh∧Chg fh w1 wr2∧Free fh wr2) (fun i _=>n - (intOf i).toNat)
   case atStart=>exact ⟨0,by omega,rfl,GI.out,HC.out,HF.out⟩
   case round =>
    clear d0 d1 GI HC HF;obtain ⟨j,hj,rfl,gi,hc,hf⟩:=hrel;have GI:=Lib.hid gi;have HC:=Lib.hid hc;have HF:=Lib.hid hf;clear gi hc hf;by_cases hltj:j<n
    ·have hltji:(j:Int)<(n:Int):=by omega
     have hja:j<ads.length:=by rw [hn.out];exact hltj
     have hkh:k<hs.length:=by rw [HH.out];exact hlt
     have hkf:k<(freeTo hs ads k j).length:=by rw [freeTo_len];exact hkh
     obtain ⟨ba,oa,rfl,hba,ma,ea,-⟩:=GA.out.numAt hja;obtain ⟨bh,oh,rfl,hbh,mh,cH,-⟩:=GI.out.numAt hkf;have fH:=HF.out bh mh (oh+k);have d1:=keep_cell_chg HC.out c1 n0;have cA:=keep_cell_chg HC.out ea (NA.out _ ma);obtain ⟨z,hz⟩:∃ z,z=(freeTo hs ads k j)[k]:=⟨_,rfl⟩;obtain ⟨y,hy⟩:∃ z,z=ads[j]:=⟨_,rfl⟩;have hit:z=y->freeTo hs ads k (j+1)=(freeTo hs ads k j).set k (-1):=fun e=>freeTo_hit hkh hja (by rw [<- hz,e,hy]);have miss:z≠y->freeTo hs ads k (j+1)=freeTo hs ads k j:=fun e=>freeTo_miss hkh hja (by rw [<- hz,<- hy];exact e);rw [<- hz] at cH;rw [<- hy] at cA;have HIT:=Lib.hid hit;have MISS:=Lib.hid miss;clear ea hz hy hit miss ma;go_wp2_with fail
     have hst:∀ F,F∈[FEq (.pointer (some ⟨w.heap.size,1,none⟩)),FEq (.slice (some ⟨bh,oh,none⟩) 6 ch),FEq (.int .i64 (k:Int)),FEq (.pointer (some ⟨bh,oh+k,none⟩)),FEq (.int .i64 z),FEq (.slice (some ⟨ba,oa,none⟩) n ca),FEq (.int .i64 (j:Int)),FEq (.pointer (some ⟨ba,oa+j,none⟩)),FEq (.int .i64 y),FEq (.bool (z == y))]->Stable [] F:=by repeat first|exact st_nil|refine st_eq ?_
     refine wp_tailH hst tbl4Free7 (fun _ w'=>Below wr.heap.size wr w') 35 10 10 [some 20,some 21,some 22,some 23,some 24,some 25,some 26,some 27,some 28,some 29] [] [] ?h0 ?hop ?hend
     case h0=>exact (Below.refl _ _).drew
     case hop =>
      refine ⟨⟨⟨⟨⟨⟨⟨⟨⟨⟨trivial,?_⟩,?_⟩,?_⟩,?_⟩,?_⟩,?_⟩,?_⟩,?_⟩,?_⟩,?_⟩
      ·exact Owes.k0 35 [(2,.pointer (some ⟨w.heap.size,0,none⟩))]
      ·exact Owes.c1 35 20 0 d1
      ·exact Owes.k0 35 [(5,.int .i64 (k:Int))]
      ·exact Owes.k2 35 21 1 22 2
      ·exact Owes.c1 35 23 3 cH
      ·exact Owes.k0 35 [(1,.slice (some ⟨ba,oa,none⟩) n ca)]
      ·exact Owes.k0 35 [(6,.int .i64 (j:Int))]
      ·exact Owes.k2 35 25 5 26 6
      ·exact Owes.c1 35 27 7 cA
      ·exact Owes.k2 35 24 4 28 8
     case hend =>
      intro u w' hI hR;simp only [setAll,List.set_cons_zero,List.set_cons_succ];unfold wpList;have e9:u 9=_:=hR 9 (by decide);rw [e9];have fH:=keep_free hI (block_of_cell cH) fH;have cH:=keep_cell hI cH;have d1:=keep_cell hI d1;have GIw:=Lib.hid (SlR.below intR_fits GI.out hI);have HCw:=Lib.hid (HC.out.trans' (hI.chg fh));have HFw:=Lib.hid (HF.out.below (fun b hb=>GI.out.lt intR_fits b hb) hI);clear hR hI hst e9 GI HC HF cA;cases hzy:(z == y)
      ·have HM:=Lib.hid (MISS.out (by simpa using hzy));go_wp2
       go_roundw
       case rel=>exact ⟨j+1,by omega,by go_num,by rw [HM.out];exact GIw.out,HCw.out,HFw.out⟩
       case measure=>simp [intOf];omega
      ·have HM:=Lib.hid (HIT.out (by simpa using hzy));go_wp2
       go_roundw
       case rel =>
        obtain ⟨t1,t2,t3⟩:=IntS.set GIw.out rfl hlt (-1);exact ⟨j+1,by omega,by go_num,by rw [HM.out];exact t1,HCw.out.trans' t2,HFw.out.setCell _ _⟩
       case measure=>simp [intOf];omega
    ·have hjn:j=ads.length:=by rw [hn.out];omega
     have hnx:freeTo hs ads k j=freeTo hs ads (k+1) 0:=by rw [hjn];exact freeTo_next _ _ _
     have HX:=Lib.hid hnx;clear hnx hjn;go_wp2
     go_roundw
     case rel=>exact ⟨k+1,by omega,by go_num,by rw [<- HX.out];exact GI.out,HC.out,HF.out⟩
     case measure=>simp [intOf];omega
  ·have hk6:hs.length<=k:=by rw [HH.out];omega
   have hfin:freeTo hs ads k 0=freeH hs ads:=freeTo_all hk6;have r0:=keep_cell_chg HC.out r0 n1;have r1:=keep_cell_chg HC.out r1 n1;have f0:=(World.frozen?_of_block (HC.out.block (w.heap.size+1) (by have:=Z1.out;omega) n1)).trans (RF.out 0);have f1:=(World.frozen?_of_block (HC.out.block (w.heap.size+1) (by have:=Z1.out;omega) n1)).trans (RF.out 1);have HCH:=Lib.hid ((B1.out.chg fh).trans' HC.out);have HP:=Lib.hid GI.out;have HFI:=Lib.hid hfin;clear HC GI hfin hk6;go_wp2;refine bodyPost_ret (v:=.agg #[.slice aw nw cw,.slice ah 6 ch]) (by simp [results,Try.results151,go_sem,put2a_0 _ _ r0,put2a_1 _ _ r1]) rfl ?_;have hc2:Chg [w.heap.size+1] wr ((wr.setCell ⟨w.heap.size+1,0,none⟩ (.slice aw nw cw)).setCell ⟨w.heap.size+1,1,none⟩ (.slice ah 6 ch)):=(store_chg _).trans' (store_chg _);refine ⟨rfl,?_,(HCH.out.trans hc2).drop (fun b hb hl=>?_),(HF.out.setCell _ _).setCell _ _⟩
   ·have:=HP.out;rw [HFI.out] at this;exact this.chg intR_fits hc2 (fun b hb=>by simp;exact fun e=>n1 (e ▸ hb))
   ·rcases List.mem_append.1 hb with hb|hb
    ·exact hb
    ·simp at hb;omega
end Go.Proofs.Ytmcjklicepaiaaa
