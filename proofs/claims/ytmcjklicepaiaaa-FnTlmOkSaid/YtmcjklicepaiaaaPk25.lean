/-
 Texts of this claim laid together: TS1.
-/
import Derived.Test.YtmcjklicepaiaaaPk24
import Derived.WalkSmall
import Derived.Deep.DeepCutAuto
import Derived.Deep.CutBlock
set_option linter.unusedVariables false
set_option linter.unusedSimpArgs false
namespace Go.Proofs.Ytmcjklicepaiaaa
def tbl5First5:List (List Nat):=[[],[0],[],[0,1,2],[0,1,2,3],[0,1,2,3,4],[0,1,2,3,4,5],[0,1,2,3,4],[0,1,2,3,4,5,6,7],[0,1,2,3,4,5,6,7,8],[0,1,2,3,4,5,6,7,8,9],[0,1,2,3,4,5,6,7,8,9,10],[0,1,2,3,4,5,6,7,8,9,10,11],[0,1,2,3,4,5,6,7,8,9,10],[0,1,2,3,4,5,6,7,8,9,10,11,12,13],[0,1,2,3,4,5,6,7,8,9,10,11,12,13,14],[0,1,2,3,4,5,6,7,8,9,10],[0,1,2,3,4,5,6,7,8,9,10,16],[0,1,2,3,4,5,6,7,8,9,10,11,12,13,14,15,16,17],[0,1,2,3,4,5,6,7,8,9,10,11,12,13,14,15,16,17,18],[0,1,2,3,4,5,6,7,8,9,10,11,12,13,14,15,16,17,18,19],[0,1,2,3,4,5,6,7,8,9,10],[0,1,2,3,4,5,6,7,8,9,10,21],[0,1,2,3,4,5,6,7,8,9,10],[0,1,2,3,4,5,6,7,8,9,10,21,22,23],[0,1,2,3,4,5,6,7,8,9,10,21,22,23,24],[0,1,2,3,4,5,6,7,8,9,10],[0,1,2,3,4,5,6,7,8,9,10,21,22,23,24,25,26],[0,1,2,3,4,5,6,7,8,9,10,21,22,23,24,25,26,27],[0,1,2,3,4,5,6,7,8,9,10,21,22,23,24,25,26,27,28],[0,1,2,3,4,5,6,7,8,9,10,11,12,13,14,15,16,17,18,19,20,21,22,23,24,25,26,27,28,29],[0,1,2,3,4,5,6,7,8,9,10,11,12,13,14,15,16,17,18,19,20,21,22,23,24,25,26,27,28,29,30]]
def tbl5Put6:List (List Nat):=[[],[0],[0,1],[0,1,2],[0,1,2],[0,1,2],[0,1,2,4,5],[0,1,2,4,5,6],[0,1,2,3,4,5,6,7],[0,1,2,3,4,5,6,7,8]]
open Go.RowKit Go.ChangeShapes Go.WideShapes
theorem infoJob:(Try.prog.info? 64).map (fun i=>(i.zero,i.size,i.bytes))=some (some (.agg #[.int .i64 0,.int .i64 0,.int .i64 0,.int .i64 0,.slice none 0 0]),5,56):=by kernel_rfl
theorem alloc1_news5 (w:World) (cs:List Value) (t:TypeId) (j:Nat) (hj:j<cs.length):(w.alloc (.cells cs.toArray t)).cell? ((⟨w.heap.size,0,none⟩:Addr).add j)=some cs[j]:=by
 rw [add_plain,Nat.zero_add];exact alloc1_new w _ _ j (by rw [List.getElem?_toArray];exact List.getElem?_eq_getElem hj)
theorem SlT.job {G:Gd} {L:List Nat} {T:Tab} {w:World} {a:Option Addr} {n i:Nat} (h:SlT T 3 a n) (hi:i<n) (hT:TH G L T w):∃ (b off:Nat) (x:Job) (da:Option Addr) (dn dc:Nat),a=some ⟨b,off,none⟩ ∧
 (∀ j (hj:j<([.int .i64 x.who,.int .i64 x.n,.int .i64 x.rsp.id,.int .i64 x.rsp.code,.slice da dn dc]:List Value).length),w.cell? ⟨b,off+i*5+j,none⟩=some ([.int .i64 x.who,.int .i64 x.n,.int .i64 x.rsp.id,.int .i64 x.rsp.code,.slice da dn dc]:List Value)[j])∧jobFine x∧UnitOk G L T w 3 [.int .i64 x.who,.int .i64 x.n,.int .i64 x.rsp.id,.int .i64 x.rsp.code,.slice da dn dc]:=by
 rcases h with rfl|⟨b,o,y,rfl,hb,hk,hn⟩
 ·omega
 ·obtain ⟨cs,_,⟨x,fp,⟨v,f,rfl,rfl,h0⟩,hG,hF⟩,h3⟩:=hT.at' hb hk hn hi;obtain ⟨da,dn,dc,rfl⟩:=h0.form;exact ⟨b,_,x,da,dn,dc,rfl,h3,hG,⟨x,fp,⟨_,fp,rfl,rfl,h0⟩,hG,hF⟩⟩
set_option maxRecDepth 100000 in
theorem l5Before_b (a b:Job) (va vb:Value) (w:World) :
 Calls Try.prog 127 #[.agg #[.int .i64 a.who,.int .i64 a.n,.int .i64 a.rsp.id,.int .i64 a.rsp.code,va],.agg #[.int .i64 b.who,.int .i64 b.n,.int .i64 b.rsp.id,.int .i64 b.rsp.code,vb]] w fun e w'=>RetBool e∧Below w.heap.size w w':=by
 have hb:Below w.heap.size w ((w.alloc (.cells #[.int .i64 a.who,.int .i64 a.n,.int .i64 a.rsp.id,.int .i64 a.rsp.code,va] 64)).alloc (.cells #[.int .i64 b.who,.int .i64 b.n,.int .i64 b.rsp.id,.int .i64 b.rsp.code,vb] 64)):=(below_alloc _ _).trans ((below_alloc _ _).mono (by simp));have B:=Lib.hid hb;obtain ⟨p,hp⟩:∃ z,decide (a.who<b.who)=z:=⟨_,rfl⟩;obtain ⟨q,hq⟩:∃ z,(a.who == b.who)=z:=⟨_,rfl⟩;clear hb;cases p
 case' false=>cases q
 all_goals
  go_enter Try.func127,Try.ntmps127
  go_wp2;go_ret;exact ⟨⟨_,rfl⟩,B.out⟩
set_option maxRecDepth 100000 in
set_option maxHeartbeats 1600000 in
theorem l5At_b (v:Value) (l:List Job) (fp:List Nat) (who m:Int) (w:World) (g:SlR 5 jobR w l v fp) :
 Calls Try.prog 87 #[v,.int .i64 who,.int .i64 m] w fun e w'=>RetInt (-1) (l.length - 1) e∧w'=w:=by
 obtain ⟨a,n,cap,rfl,hn,hcap,hmax,hcm,r⟩:=g.opened;clear g;go_enter Try.func87,Try.ntmps87
 go_wp2_with fail
 go_loopw [7] (fun i wr=>∃ k:Nat,k<=n∧i = .int .i64 k∧wr=w) (fun i _=>n - (intOf i).toNat)
 case atStart=>exact ⟨0,Nat.zero_le _,rfl,rfl⟩
 case round =>
  obtain ⟨k,hk,rfl,rfl⟩:=hrel;by_cases hlt:k<n
  ·obtain ⟨i1,b1,o1,f1,cs,rfl,hb1,_,_,⟨dv,df,rfl,rfl,hd⟩,e1⟩:=r k hlt;have c0:=e1 0 (by simp);have c1:=e1 1 (by simp);simp only [Nat.add_zero,List.getElem_cons_zero,List.getElem_cons_succ] at c0 c1;obtain ⟨p,hp⟩:∃ z,(l[k].who == who)=z:=⟨_,rfl⟩;obtain ⟨q,hq⟩:∃ z,(l[k].n == m)=z:=⟨_,rfl⟩;clear r e1 hd;cases p
   ·go_wp2
    go_roundw
    case rel=>exact ⟨k+1,by omega,by go_num,trivial⟩
    case measure=>simp [intOf];omega
   ·cases q
    ·go_wp2
     go_roundw
     case rel=>exact ⟨k+1,by omega,by go_num,trivial⟩
     case measure=>simp [intOf];omega
    ·go_wp2;go_ret;exact ⟨⟨_,by omega,by rw [hn.out];omega,rfl⟩,rfl⟩
  ·clear r;go_wp2;go_ret;exact ⟨⟨_,by omega,by omega,rfl⟩,rfl⟩
set_option maxRecDepth 100000 in
set_option maxHeartbeats 6400000 in
theorem l5First_b (ps:List (List Req)) (v0 v1 v2:Value) (fp2:List Nat) (l:List Job) (vj:Value) (fj:List Nat) (k nn:Nat) (hk:k<ps.length) (hnn:nn<ps[k].length) (hj0:∀ j,j∈l->0<=j.n) (hf0:∃ a n c,v0 = .slice a n c) (hf1:∃ a n c,v1 = .slice a n c) (w:World) (g2:SlR 1 (slR 7 reqR) w ps v2 fp2) (gj:SlR 5 jobR w l vj fj) :
 Calls Try.prog 138 #[.agg #[v0,v1,v2],vj,.int .i64 (k:Int),.int .i64 (nn:Int)] w fun e w'=>RetBool e∧Below w.heap.size w w':=by
 obtain ⟨qa,qn,qc,rfl⟩:=hf0;obtain ⟨ra,rn,rc,rfl⟩:=hf1;obtain ⟨pa,pn,pc,rfl,hpn,_,_,_,rp⟩:=g2.opened;have hkn:k<pn:=by rw [<- hpn.out];exact hk
 have hkni:(k:Int)<(pn:Int):=by omega
 obtain ⟨_,bp,op,fpp,csp,rfl,_,_,_,⟨vr,rfl,hrow⟩,ep⟩:=rp k hkn;have pcell:=ep 0 (by simp);simp only [Nat.mul_one,Nat.add_zero,List.getElem_cons_zero] at pcell;obtain ⟨ba_,nr,cr,rfl,hnr,_,_,_,rr⟩:=hrow.opened;have hnnr:nn<nr:=by rw [<- hnr.out];exact hnn
 have hnnri:(nn:Int)<(nr:Int):=by omega
 obtain ⟨_,br,or_,frr,csr,rfl,_,_,_,⟨_,_,_,_,rfl,_⟩,er⟩:=rr nn hnnr;have ncell:=er 0 (by simp);simp only [Nat.add_zero,List.getElem_cons_zero] at ncell;obtain ⟨ly,hly⟩:∃ z:Int,z=ps[k][nn].id:=⟨_,rfl⟩;rw [<- hly] at ncell;clear hly;have rrc:∀ i,i<nr->∃ z:Int,w.cell? ⟨br,or_+i*7,none⟩=some (.int .i64 z):=fun i hi=>by
  obtain ⟨_,b',o',_,_,e',_,_,_,⟨_,_,_,_,rfl,_⟩,e2⟩:=rr i hi;simp only [Option.some.injEq,Addr.mk.injEq,and_true] at e';obtain ⟨rfl,rfl⟩:=e';exact ⟨_,by simpa using e2 0 (by simp)⟩
 obtain ⟨ja,jn_,jcap,rfl,hjn,_,_,_,rj⟩:=gj.opened;obtain ⟨w1,hw1⟩:∃ z,z=w.alloc (.cells #[.slice qa qn qc,.slice ra rn rc,.slice (some ⟨bp,op,none⟩) pn pc] 38):=⟨_,rfl⟩;have b1:Below w.heap.size w w1:=by rw [hw1];exact below_alloc _ _
 have cb2:w1.cell? ⟨w.heap.size,2,none⟩=some (.slice (some ⟨bp,op,none⟩) pn pc):=by rw [hw1];exact alloc1_new _ _ _ 2 rfl
 have B1:=Lib.hid b1;have RRC:=Lib.hid rrc;have RJ:=Lib.hid rj;have HJ0:=Lib.hid hj0;have PC:=Lib.hid pcell;have NC:=Lib.hid ncell;clear g2 gj rp ep rr er hrow rrc rj b1 hj0 pcell ncell hk hnn;go_enter Try.func138,Try.ntmps138
 go_upto_region 1 with fail
 rw [<- hw1];clear hw1;go_wp2_with fail
 go_loopw [9] (fun i wr=>∃ i0:Nat,i0<=jn_∧i = .int .i64 i0∧Below w1.heap.size w1 wr) (fun i _=>jn_ - (intOf i).toNat)
 case atStart=>exact ⟨0,Nat.zero_le _,rfl,Below.refl _ _⟩
 case round =>
  obtain ⟨i0,hi0,rfl,hb⟩:=hrel;have HB:=Lib.hid hb;clear hb;by_cases hlt:i0<jn_
  ·have hlti:(i0:Int)<(jn_:Int):=by omega
   obtain ⟨i1,bj,oj,f1,cs,rfl,_,_,_,⟨dv,df,rfl,rfl,hd⟩,e1⟩:=RJ.out i0 hlt;obtain ⟨da,dn,dc,rfl⟩:=hd.form;obtain ⟨jm,hjm⟩:=Int.eq_ofNat_of_zero_le (HJ0.out _ (List.getElem_mem i1));obtain ⟨x,hx⟩:∃ z,z=l[i0]:=⟨_,rfl⟩;rw [<- hx] at e1 hjm;have q0:=keep_cell HB.out (keep_cell B1.out (e1 0 (by simp)));have q1:=keep_cell HB.out (keep_cell B1.out (e1 1 (by simp)));have q2:=keep_cell HB.out (keep_cell B1.out (e1 2 (by simp)));have q3:=keep_cell HB.out (keep_cell B1.out (e1 3 (by simp)));have q4:=keep_cell HB.out (keep_cell B1.out (e1 4 (by simp)));simp only [Nat.add_zero,List.getElem_cons_zero,List.getElem_cons_succ] at q0 q1 q2 q3 q4;rw [hjm] at q1;obtain ⟨w5,hw5⟩:∃ z,z=wr.alloc (.cells #[.int .i64 x.who,.int .i64 (jm:Int),.int .i64 x.rsp.id,.int .i64 x.rsp.code,.slice da dn dc] 64):=⟨_,rfl⟩;have b5:Below wr.heap.size wr w5:=by rw [hw5];exact below_alloc _ _
   have d0:w5.cell? ⟨wr.heap.size,0,none⟩=some (.int .i64 x.who):=by rw [hw5];exact alloc1_new _ _ _ 0 rfl
   have d1:w5.cell? ⟨wr.heap.size,1,none⟩=some (.int .i64 (jm:Int)):=by rw [hw5];exact alloc1_new _ _ _ 1 rfl
   have HB5:=Lib.hid (HB.out.trans (b5.mono HB.out.size));have RJ2:=RJ;clear e1 hd hjm hx i1 b5;go_upto_region 5 with fail
   rw [<- hw5];clear hw5 q0 q1 q2 q3 q4;have cb2:=keep_cell HB5.out cb2;have pcell:=keep_cell HB5.out (keep_cell B1.out PC.out);have ncell:=keep_cell HB5.out (keep_cell B1.out NC.out);obtain ⟨J,hJ⟩:∃ z,z=wr.heap.size:=⟨_,rfl⟩;rw [<- hJ] at d0 d1;rw [<- hJ];clear hJ;cases hwho:(x.who == (k:Int))
   ·skip
    have hst:∀ F,F∈[FEq (.pointer (some ⟨J,0,none⟩)),FEq (.int .i64 x.who),FEq (.int .i64 (k:Int)),FEq (.bool false),FEq (.bool false),FEq undef,FEq undef,FEq undef,FEq undef,FEq (.bool false),FEq (.bool false),FEq undef,FEq undef,FEq undef,FEq undef,FEq undef,FEq undef,FEq undef,FEq undef,FEq undef,FEq undef,FEq undef,FEq undef,FEq undef,FEq undef,FEq undef,FEq undef,FEq undef,FEq undef,FEq undef,FEq undef,FEq (.bool false)]->Stable [] F:=by repeat first|exact st_nil|refine st_eq ?_
    refine wp_skipH hst tbl5First5 (fun _ w'=>Below w5.heap.size w5 w') 53 32 32 [some 21,some 22,some 23,some 24,some 25,some 26,some 27,some 28,some 29,some 30,some 31,some 32,some 33,some 34,some 35,some 36,some 37,some 38,some 39,some 40,some 41,some 42,some 43,some 44,some 45,some 46,some 47,some 48,some 49,some 50,some 51,some 52] [] [5,6,7,8,11,12,13,14,15,16,17,18,19,20,21,22,23,24,25,26,27,28,29,30] [(10,false),(4,false)] ?h0 ?hop ?hend
    case h0=>exact (Below.refl _ _).drew
    case hop =>
     refine ⟨⟨⟨⟨⟨⟨⟨⟨⟨⟨⟨⟨⟨⟨⟨⟨⟨⟨⟨⟨⟨⟨⟨⟨⟨⟨⟨⟨⟨⟨⟨⟨trivial,?_⟩,?_⟩,?_⟩,?_⟩,?_⟩,?_⟩,?_⟩,?_⟩,?_⟩,?_⟩,?_⟩,?_⟩,?_⟩,?_⟩,?_⟩,?_⟩,?_⟩,?_⟩,?_⟩,?_⟩,?_⟩,?_⟩,?_⟩,?_⟩,?_⟩,?_⟩,?_⟩,?_⟩,?_⟩,?_⟩,?_⟩,?_⟩
     all_goals first|exact .inl (by decide)|skip
     ·exact .inr (Owes.k0 53 [(10,.pointer (some ⟨J,0,none⟩))])
     ·exact .inr (Owes.c1 53 21 0 d0)
     ·exact .inr (Owes.k0 53 [(2,.int .i64 (k:Int))])
     ·exact .inr (Owes.k2 53 22 1 23 2)
     ·exact .inr (Owes.k1 53 24 3)
     ·exact .inr (Owes.k2 53 25 4 29 8)
     ·exact .inr (Owes.k1 53 30 9)
     ·exact .inr (Owes.k2 53 31 10 51 30)
    case hend =>
     intro u w' hI hR;simp only [setAll,List.set_cons_zero,List.set_cons_succ];unfold wpList;have e31:u 31=_:=hR 31 (by decide);rw [e31];have HBw:=Lib.hid (HB5.out.trans (hI.mono HB5.out.size));clear hR hI hst e31 d0 d1 cb2 pcell ncell;go_wp2
     go_roundw
     case rel=>exact ⟨i0+1,by omega,by go_num,HBw.out⟩
     case measure=>simp [intOf];omega
   ·by_cases hjn2:jm<nn
    ·have hjni:((jm:Int)<(nn:Int)):=by omega
     obtain ⟨lx,hlx⟩:=RRC.out jm (by omega);have icell:=keep_cell HB5.out (keep_cell B1.out hlx);have hjr:(jm:Int)<(nr:Int):=by omega
     clear hlx;have hst:∀ F,F∈[FEq (.pointer (some ⟨J,0,none⟩)),FEq (.int .i64 x.who),FEq (.int .i64 (k:Int)),FEq (.bool true),FEq (.bool true),FEq (.pointer (some ⟨J,1,none⟩)),FEq (.int .i64 (jm:Int)),FEq (.int .i64 (nn:Int)),FEq (.bool true),FEq (.bool true),FEq (.bool true),FEq (.pointer (some ⟨w.heap.size,2,none⟩)),FEq (.slice (some ⟨bp,op,none⟩) pn pc),FEq (.int .i64 (k:Int)),FEq (.pointer (some ⟨bp,op+k,none⟩)),FEq (.slice (some ⟨br,or_,none⟩) nr cr),FEq (.pointer (some ⟨J,1,none⟩)),FEq (.int .i64 (jm:Int)),FEq (.pointer (some ⟨br,or_+jm*7,none⟩)),FEq (.pointer (some ⟨br,or_+jm*7,none⟩)),FEq (.int .i64 lx),FEq (.pointer (some ⟨w.heap.size,2,none⟩)),FEq (.slice (some ⟨bp,op,none⟩) pn pc),FEq (.int .i64 (k:Int)),FEq (.pointer (some ⟨bp,op+k,none⟩)),FEq (.slice (some ⟨br,or_,none⟩) nr cr),FEq (.int .i64 (nn:Int)),FEq (.pointer (some ⟨br,or_+nn*7,none⟩)),FEq (.pointer (some ⟨br,or_+nn*7,none⟩)),FEq (.int .i64 ly),FEq (.bool (lx == ly)),FEq (.bool (lx == ly))]->Stable [] F:=by repeat first|exact st_nil|refine st_eq ?_
     refine wp_tailH hst tbl5First5 (fun _ w'=>Below w5.heap.size w5 w') 53 32 32 [some 21,some 22,some 23,some 24,some 25,some 26,some 27,some 28,some 29,some 30,some 31,some 32,some 33,some 34,some 35,some 36,some 37,some 38,some 39,some 40,some 41,some 42,some 43,some 44,some 45,some 46,some 47,some 48,some 49,some 50,some 51,some 52] [] [(10,true),(4,true)] ?h0 ?hop ?hend
     case h0=>exact (Below.refl _ _).drew
     case hop =>
      refine ⟨⟨⟨⟨⟨⟨⟨⟨⟨⟨⟨⟨⟨⟨⟨⟨⟨⟨⟨⟨⟨⟨⟨⟨⟨⟨⟨⟨⟨⟨⟨⟨trivial,?_⟩,?_⟩,?_⟩,?_⟩,?_⟩,?_⟩,?_⟩,?_⟩,?_⟩,?_⟩,?_⟩,?_⟩,?_⟩,?_⟩,?_⟩,?_⟩,?_⟩,?_⟩,?_⟩,?_⟩,?_⟩,?_⟩,?_⟩,?_⟩,?_⟩,?_⟩,?_⟩,?_⟩,?_⟩,?_⟩,?_⟩,?_⟩
      ·exact Owes.k0 53 [(10,.pointer (some ⟨J,0,none⟩))]
      ·exact Owes.c1 53 21 0 d0
      ·exact Owes.k0 53 [(2,.int .i64 (k:Int))]
      ·exact Owes.k2 53 22 1 23 2
      ·exact Owes.k1 53 24 3
      ·exact Owes.k0G 53 [(10,.pointer (some ⟨J,0,none⟩))]
      ·exact Owes.c1G 53 26 5 d1
      ·exact Owes.k0G 53 [(3,.int .i64 (nn:Int))]
      ·exact Owes.k2G 53 27 6 28 7
      ·exact Owes.k2 53 25 4 29 8
      ·exact Owes.k1 53 30 9
      ·exact Owes.k0G 53 [(4,.pointer (some ⟨w.heap.size,0,none⟩))]
      ·exact Owes.c1G 53 32 11 cb2
      ·exact Owes.k0G 53 [(2,.int .i64 (k:Int))]
      ·exact Owes.k2G 53 33 12 34 13
      ·exact Owes.c1G 53 35 14 pcell
      ·exact Owes.k0G 53 [(10,.pointer (some ⟨J,0,none⟩))]
      ·exact Owes.c1G 53 37 16 d1
      ·exact Owes.k2G 53 36 15 38 17
      ·exact Owes.k1G 53 39 18
      ·exact Owes.c1G 53 40 19 icell
      ·exact Owes.k0G 53 [(4,.pointer (some ⟨w.heap.size,0,none⟩))]
      ·exact Owes.c1G 53 42 21 cb2
      ·exact Owes.k0G 53 [(2,.int .i64 (k:Int))]
      ·exact Owes.k2G 53 43 22 44 23
      ·exact Owes.c1G 53 45 24 pcell
      ·exact Owes.k0G 53 [(3,.int .i64 (nn:Int))]
      ·exact Owes.k2G 53 46 25 47 26
      ·exact Owes.k1G 53 48 27
      ·exact Owes.c1G 53 49 28 ncell
      ·exact Owes.k2G 53 41 20 50 29
      ·exact Owes.k2 53 31 10 51 30
     case hend =>
      intro u w' hI hR;simp only [setAll,List.set_cons_zero,List.set_cons_succ];unfold wpList;have e31:u 31=_:=hR 31 (by decide);rw [e31];have HBw:=Lib.hid (HB5.out.trans (hI.mono HB5.out.size));clear hR hI hst e31 d0 d1 cb2 pcell ncell;cases hxy:(lx == ly)
      ·go_wp2
       go_roundw
       case rel=>exact ⟨i0+1,by omega,by go_num,HBw.out⟩
       case measure=>simp [intOf];omega
      ·go_wp2;go_ret;exact ⟨⟨_,rfl⟩,B1.out.trans (HBw.out.mono B1.out.size)⟩
    ·have hjni:¬ ((jm:Int)<(nn:Int)):=by omega
     have hst:∀ F,F∈[FEq (.pointer (some ⟨J,0,none⟩)),FEq (.int .i64 x.who),FEq (.int .i64 (k:Int)),FEq (.bool true),FEq (.bool true),FEq (.pointer (some ⟨J,1,none⟩)),FEq (.int .i64 (jm:Int)),FEq (.int .i64 (nn:Int)),FEq (.bool false),FEq (.bool false),FEq (.bool false),FEq undef,FEq undef,FEq undef,FEq undef,FEq undef,FEq undef,FEq undef,FEq undef,FEq undef,FEq undef,FEq undef,FEq undef,FEq undef,FEq undef,FEq undef,FEq undef,FEq undef,FEq undef,FEq undef,FEq undef,FEq (.bool false)]->Stable [] F:=by repeat first|exact st_nil|refine st_eq ?_
     refine wp_skipH hst tbl5First5 (fun _ w'=>Below w5.heap.size w5 w') 53 32 32 [some 21,some 22,some 23,some 24,some 25,some 26,some 27,some 28,some 29,some 30,some 31,some 32,some 33,some 34,some 35,some 36,some 37,some 38,some 39,some 40,some 41,some 42,some 43,some 44,some 45,some 46,some 47,some 48,some 49,some 50,some 51,some 52] [] [11,12,13,14,15,16,17,18,19,20,21,22,23,24,25,26,27,28,29,30] [(10,false),(4,true)] ?h0 ?hop ?hend
     case h0=>exact (Below.refl _ _).drew
     case hop =>
      refine ⟨⟨⟨⟨⟨⟨⟨⟨⟨⟨⟨⟨⟨⟨⟨⟨⟨⟨⟨⟨⟨⟨⟨⟨⟨⟨⟨⟨⟨⟨⟨⟨trivial,?_⟩,?_⟩,?_⟩,?_⟩,?_⟩,?_⟩,?_⟩,?_⟩,?_⟩,?_⟩,?_⟩,?_⟩,?_⟩,?_⟩,?_⟩,?_⟩,?_⟩,?_⟩,?_⟩,?_⟩,?_⟩,?_⟩,?_⟩,?_⟩,?_⟩,?_⟩,?_⟩,?_⟩,?_⟩,?_⟩,?_⟩,?_⟩
      all_goals first|exact .inl (by decide)|skip
      ·exact .inr (Owes.k0 53 [(10,.pointer (some ⟨J,0,none⟩))])
      ·exact .inr (Owes.c1 53 21 0 d0)
      ·exact .inr (Owes.k0 53 [(2,.int .i64 (k:Int))])
      ·exact .inr (Owes.k2 53 22 1 23 2)
      ·exact .inr (Owes.k1 53 24 3)
      ·exact .inr (Owes.k0G 53 [(10,.pointer (some ⟨J,0,none⟩))])
      ·exact .inr (Owes.c1G 53 26 5 d1)
      ·exact .inr (Owes.k0G 53 [(3,.int .i64 (nn:Int))])
      ·exact .inr (Owes.k2G 53 27 6 28 7)
      ·exact .inr (Owes.k2 53 25 4 29 8)
      ·exact .inr (Owes.k1 53 30 9)
      ·exact .inr (Owes.k2 53 31 10 51 30)
     case hend =>
      intro u w' hI hR;simp only [setAll,List.set_cons_zero,List.set_cons_succ];unfold wpList;have e31:u 31=_:=hR 31 (by decide);rw [e31];have HBw:=Lib.hid (HB5.out.trans (hI.mono HB5.out.size));clear hR hI hst e31 d0 d1 cb2 pcell ncell;go_wp2
      go_roundw
      case rel=>exact ⟨i0+1,by omega,by go_num,HBw.out⟩
      case measure=>simp [intOf];omega
  ·go_wp2;go_ret;exact ⟨⟨_,rfl⟩,B1.out.trans (HB.out.mono B1.out.size)⟩
set_option maxRecDepth 100000 in
set_option maxHeartbeats 6400000 in
theorem l5Put_b {G:Gd} (L:List Nat) (T0:Tab) (a0:Option Addr) (n c0:Nat) (x:Job) (da:Option Addr) (dn dc:Nat) (hn:n<=1000) (w:World) (hT:TH G L T0 w) (hA:SlA T0 3 a0 n c0) (hU:UnitOk G L T0 w 3 [.int .i64 x.who,.int .i64 x.n,.int .i64 x.rsp.id,.int .i64 x.rsp.code,.slice da dn dc]) :
 Calls Try.prog 137 #[.slice a0 n c0,.agg #[.int .i64 x.who,.int .i64 x.n,.int .i64 x.rsp.id,.int .i64 x.rsp.code,.slice da dn dc]] w fun e w'=>∃ T a c,e = .returned (.slice a (n+1) c)∧TH G L T w'∧Step [] T0 w T w'∧SlA T 3 a (n+1) c:=by
 obtain ⟨i0,ki,kz0,kz1,kz2⟩:=info_parts infoJob;obtain ⟨w1,hw1⟩:∃ z,z=w.alloc (.cells #[.int .i64 x.who,.int .i64 x.n,.int .i64 x.rsp.id,.int .i64 x.rsp.code,.slice da dn dc] 64):=⟨_,rfl⟩;have b1:Below w.heap.size w w1:=by rw [hw1];exact below_alloc _ _
 have k:∀ j (hj:j<([.int .i64 x.who,.int .i64 x.n,.int .i64 x.rsp.id,.int .i64 x.rsp.code,.slice da dn dc]:List Value).length),w1.cell? ⟨w.heap.size,j,none⟩=some ([.int .i64 x.who,.int .i64 x.n,.int .i64 x.rsp.id,.int .i64 x.rsp.code,.slice da dn dc]:List Value)[j]:=fun j hj=>by
  rw [hw1];exact alloc1_new _ _ _ j (by rw [List.getElem?_toArray];exact List.getElem?_eq_getElem hj)
 have tJ:T0 w.heap.size=none:=hT.fresh (Nat.le_refl _);have HTJ:=Lib.hid tJ;have KC:=Lib.hid k;have HS1:=Lib.hid (Step.of_below (T:=T0) [] b1);have ht1:=hT.below b1;obtain ⟨t8,s8,a8⟩:=ht1.lit0 3 64;have HT8:=Lib.hid t8;have HL8:=Lib.hid s8;have HA8:=Lib.hid a8;have HA0:=Lib.hid hA;have HU1:=Lib.hid (hU.step (Step.of_below [] b1) (by simp));clear hT hA hU b1 k tJ ht1 t8 s8 a8;go_enter Try.func137,Try.ntmps137
 go_upto_region 1 with fail
 rw [<- hw1];clear hw1;obtain ⟨J,hJ⟩:∃ z,z=w.heap.size:=⟨_,rfl⟩;rw [<- hJ] at HTJ KC;rw [<- hJ];clear hJ;go_wp2_with fail
 go_loopw [5,6,7] (fun v d i wr=>∃ (k m:Nat) (b:Bool) (T:Tab) (a:Option Addr) (c:Nat),k<=n∧i = .int .i64 k∧d = .bool b∧v = .slice a m c∧m=(if b then k+1 else k)∧TH G L T wr∧Step [] T0 w1 T wr∧SlA T 3 a m c) (fun _ _ i _=>n - (intOf i).toNat)
 case atStart=>exact ⟨0,0,false,_,_,_,Nat.zero_le _,rfl,rfl,rfl,rfl,HT8.out,HL8.out,HA8.out⟩
 case round =>
  clear HT8 HL8 HA8;obtain ⟨k,m,b,T,a,c,hk,rfl,rfl,rfl,hm,hth,hst_,ha⟩:=hrel;have HT:=Lib.hid hth;have HS:=Lib.hid hst_;have HA:=Lib.hid ha;have HM:=Lib.hid hm;have hm1:m<=k+1:=by rw [hm];split<;>omega
  clear hth hst_ ha hm;have j0:=HS.out.cell (KC.out 0 (by simp)) (by simp) HTJ.out;have j1:=HS.out.cell (KC.out 1 (by simp)) (by simp) HTJ.out;have j2:=HS.out.cell (KC.out 2 (by simp)) (by simp) HTJ.out;have j3:=HS.out.cell (KC.out 3 (by simp)) (by simp) HTJ.out;have j4:=HS.out.cell (KC.out 4 (by simp)) (by simp) HTJ.out;simp only [List.getElem_cons_zero,List.getElem_cons_succ] at j0 j1 j2 j3 j4;by_cases hlt:k<n
  ·have hlti:(k:Int)<(n:Int):=by omega
   obtain ⟨bl,ol,y,ea,en,ec,rfl,hc,hfy,hUy⟩:=((HA0.out.ext HS.out.ext).t).job hlt HT.out;have l0:=hc 0 (by simp);have l1:=hc 1 (by simp);have l2:=hc 2 (by simp);have l3:=hc 3 (by simp);have l4:=hc 4 (by simp);simp only [Nat.add_zero,List.getElem_cons_zero,List.getElem_cons_succ] at l0 l1 l2 l3 l4;have HUy:=Lib.hid hUy;have HUx:=Lib.hid (HU1.out.step HS.out (by simp));clear hc hfy hUy;cases b
   ·skip
    go_wp2_with fail
    have hst:∀ F,F∈[FEq (.bool false),FEq (.bool true),FEq (.bool true),FEq (.agg #[.int .i64 x.who,.int .i64 x.n,.int .i64 x.rsp.id,.int .i64 x.rsp.code,.slice da dn dc]),FEq (.slice (some ⟨bl,ol,none⟩) n c0),FEq (.int .i64 (k:Int)),FEq (.pointer (some ⟨bl,ol+k*5,none⟩)),FEq (.agg #[.int .i64 y.who,.int .i64 y.n,.int .i64 y.rsp.id,.int .i64 y.rsp.code,.slice ea en ec]),FBool,FBool]->Stable [] F:=by repeat first|exact st_nil|refine st_eq ?_|refine st_cons (by first|exact stBool _) ?_
    refine wp_tailH hst tbl5Put6 (fun _ w'=>Below wr.heap.size wr w') 43 10 10 [some 15,some 16,some 17,some 18,some 19,some 20,some 21,some 22,some 23,some 24] [] [(2,true)] ?h0 ?hop ?hend
    case h0=>exact (Below.refl _ _).drew
    case hop =>
     refine ⟨⟨⟨⟨⟨⟨⟨⟨⟨⟨trivial,?_⟩,?_⟩,?_⟩,?_⟩,?_⟩,?_⟩,?_⟩,?_⟩,?_⟩,?_⟩
     ·exact Owes.k0 43 [(6,.bool false)]
     ·exact Owes.k1 43 15 0
     ·exact Owes.k1 43 16 1
     ·refine Owes.qG 43 (fun u=>[(3,.pointer (some ⟨J,0,none⟩))]) fun u w' hI hR=>?_;dsimp only [frm,List.foldl,List.replicate,List.set];obtain ⟨_,hI⟩:=hI;have k0:=keep_cell hI j0;have k1:=keep_cell hI j1;have k2:=keep_cell hI j2;have k3:=keep_cell hI j3;have k4:=keep_cell hI j4;clear hI hst hR;go_wp2;exact ⟨rfl,_,rfl,rfl,rfl⟩
     ·exact Owes.k0G 43 [(0,.slice (some ⟨bl,ol,none⟩) n c0)]
     ·exact Owes.k0G 43 [(7,.int .i64 (k:Int))]
     ·exact Owes.k2G 43 19 4 20 5
     ·refine Owes.qG 43 (fun u=>[(21,u 6)]) fun u w' hI hR=>?_;dsimp only [frm,List.foldl,List.replicate,List.set];obtain ⟨_,hI⟩:=hI;have k5:=keep_cell hI l0;have k6:=keep_cell hI l1;have k7:=keep_cell hI l2;have k8:=keep_cell hI l3;have k9:=keep_cell hI l4;have e6:u 6=_:=hR 6 (by decide);rw [e6];clear hI hst hR;go_wp2;exact ⟨rfl,_,rfl,rfl,rfl⟩
     ·refine Owes.mkG _ _ rfl rfl (fun _ _ h=>by cases h) fun u m w' hm hI hR=>⟨⟨(frm 43 [(18,u 3),(22,u 7)]).toArray,[]⟩,rfl,fun d hd=>by cases hd;exact frm_lt (by decide),?_⟩;dsimp only [frm,List.foldl,List.replicate,List.set];have e3:u 3=_:=hR 3 (by decide);have e7:u 7=_:=hR 7 (by decide);rw [e3,e7];clear e3 e7;have HI:=Lib.hid hI;have HSt:=Lib.hid hst;clear hI hst hR;go_wp2_with fail
      refine (l5Before_b x y _ _ _).mono ?_;rintro e w7 ⟨⟨z,rfl⟩,b7⟩;have HI7:=Lib.hid (HI.out.trans (b7.mono HI.out.size));have HS7:=Lib.hid (facts_stable HSt.out (b7.chg []));clear b7;go_wp2;exact ⟨rfl,_,rfl,⟨z,rfl⟩,HI7.out,HS7.out⟩
     ·refine Owes.mk _ rfl rfl (fun _ _ h=>by cases h) fun u m w' hm hI hR=>⟨⟨(frm 43 [(17,u 2),(23,u 8)]).toArray,[]⟩,rfl,fun d hd=>by cases hd;exact frm_lt (by decide),?_⟩;dsimp only [frm,List.foldl,List.replicate,List.set];have e2:u 2=_:=hR 2 (by decide);rw [e2];clear e2;obtain ⟨x8,e8⟩:=hR 8 (by decide);rw [e8];have HI:=Lib.hid hI;clear hI hst hR e8;go_wp2;exact ⟨rfl,_,rfl,⟨x8,rfl⟩,HI.out,fun _ _ h=>h⟩
    case hend =>
     intro u w' hI hR;simp only [setAll,List.set_cons_zero,List.set_cons_succ];unfold wpList;obtain ⟨x9,e9⟩:=hR 9 (by decide);rw [e9];obtain ⟨w6,hw6⟩:∃ z,z=w':=⟨_,rfl⟩;subst hw6;replace HT:=Lib.hid (HT.out.below hI);replace HS:=Lib.hid (HS.out.trans (Step.of_below [] hI));replace HUy:=Lib.hid (HUy.out.step (Step.of_below [] hI) (by simp));replace HUx:=Lib.hid (HUx.out.step (Step.of_below [] hI) (by simp));replace j0:=keep_cell hI j0;replace j1:=keep_cell hI j1;replace j2:=keep_cell hI j2;replace j3:=keep_cell hI j3;replace j4:=keep_cell hI j4;replace l0:=keep_cell hI l0;replace l1:=keep_cell hI l1;replace l2:=keep_cell hI l2;replace l3:=keep_cell hI l3;replace l4:=keep_cell hI l4;clear hR hI hst e9;have hN2:m<=2000000:=by omega
     cases x9
     ·skip
      have ba:=below_alloc w6 (.cells #[.int .i64 y.who,.int .i64 y.n,.int .i64 y.rsp.id,.int .i64 y.rsp.code,.slice ea en ec] 64);have HTa:=Lib.hid (HT.out.below ba);have HSa:=Lib.hid (HS.out.trans (Step.of_below [] ba));have HUa:=Lib.hid (HUy.out.step (Step.of_below [] ba) (by simp));have hcell:∀ (j:Nat) (hj:j<([.int .i64 y.who,.int .i64 y.n,.int .i64 y.rsp.id,.int .i64 y.rsp.code,.slice ea en ec]:List Value).length),(w6.alloc (.cells #[.int .i64 y.who,.int .i64 y.n,.int .i64 y.rsp.id,.int .i64 y.rsp.code,.slice ea en ec] 64)).cell? ((⟨w6.heap.size,0,none⟩:Addr).add j)=some ([.int .i64 y.who,.int .i64 y.n,.int .i64 y.rsp.id,.int .i64 y.rsp.code,.slice ea en ec]:List Value)[j]:=alloc1_news5 w6 _ _;go_wp2_with (at_builtin;refine wpList_appendT (k:=3) (cs:=[.int .i64 y.who,.int .i64 y.n,.int .i64 y.rsp.id,.int .i64 y.rsp.code,.slice ea en ec]) rfl _ _ 56 64 i0 (.agg #[.int .i64 0,.int .i64 0,.int .i64 0,.int .i64 0,.slice none 0 0]) 56 rfl Try.underlying56 ki kz0 kz1 kz2 rfl (by decide) rfl rfl HTa.out HA.out rfl HUa.out hcell (by simp [Value.oneCell']) hN2 ?_;intro ao' cap' T' w8 t8 s8 a8;have HT8:=Lib.hid t8;have HS8:=Lib.hid (HSa.out.trans s8);have HA8:=Lib.hid a8;have HX8:=Lib.hid s8;clear t8 s8 a8 hcell ba)
      go_roundw
      case rel=>exact ⟨k+1,m+1,false,T',ao',cap',by omega,by go_num,rfl,rfl,by rw [HM.out];simp,HT8.out,HS8.out,HA8.out⟩
      case measure=>simp [intOf];omega
     ·skip
      have ba:=below_alloc w6 (.cells #[.int .i64 x.who,.int .i64 x.n,.int .i64 x.rsp.id,.int .i64 x.rsp.code,.slice da dn dc] 64);have HTa:=Lib.hid (HT.out.below ba);have HSa:=Lib.hid (HS.out.trans (Step.of_below [] ba));have HUa:=Lib.hid (HUx.out.step (Step.of_below [] ba) (by simp));have hcell:∀ (j:Nat) (hj:j<([.int .i64 x.who,.int .i64 x.n,.int .i64 x.rsp.id,.int .i64 x.rsp.code,.slice da dn dc]:List Value).length),(w6.alloc (.cells #[.int .i64 x.who,.int .i64 x.n,.int .i64 x.rsp.id,.int .i64 x.rsp.code,.slice da dn dc] 64)).cell? ((⟨w6.heap.size,0,none⟩:Addr).add j)=some ([.int .i64 x.who,.int .i64 x.n,.int .i64 x.rsp.id,.int .i64 x.rsp.code,.slice da dn dc]:List Value)[j]:=alloc1_news5 w6 _ _;go_upto_region 9 with (at_builtin;refine wpList_appendT (k:=3) (cs:=[.int .i64 x.who,.int .i64 x.n,.int .i64 x.rsp.id,.int .i64 x.rsp.code,.slice da dn dc]) rfl _ _ 56 64 i0 (.agg #[.int .i64 0,.int .i64 0,.int .i64 0,.int .i64 0,.slice none 0 0]) 56 rfl Try.underlying56 ki kz0 kz1 kz2 rfl (by decide) rfl rfl HTa.out HA.out rfl HUa.out hcell (by simp [Value.oneCell']) hN2 ?_;intro ao' cap' T' w8 t8 s8 a8;have HT8:=Lib.hid t8;have HS8:=Lib.hid (HSa.out.trans s8);have HA8:=Lib.hid a8;have HX8:=Lib.hid s8;have HSl:=Lib.hid (Step.of_below (T:=T) [] ba);clear t8 s8 a8 hcell ba)
      have hN3:m+1<=2000000:=by omega
      have HUy8:=Lib.hid (HUy.out.step (HSl.out.trans HX8.out) (by simp));obtain ⟨bl',ol',y',fa,fn,fc,e',hc',_,hUy'⟩:=((HA0.out.ext HS8.out.ext).t).job hlt HT8.out;simp only [Option.some.injEq,Addr.mk.injEq,and_true] at e';obtain ⟨rfl,rfl⟩:=e';have l0:=hc' 0 (by simp);have l1:=hc' 1 (by simp);have l2:=hc' 2 (by simp);have l3:=hc' 3 (by simp);have l4:=hc' 4 (by simp);simp only [Nat.add_zero,List.getElem_cons_zero,List.getElem_cons_succ] at l0 l1 l2 l3 l4;have HUy':=Lib.hid hUy';have HS:=HS8;clear hc' hUy' HUy HUy8 HUx HT HSl HSa HX8;have ba:=below_alloc w8 (.cells #[.int .i64 y'.who,.int .i64 y'.n,.int .i64 y'.rsp.id,.int .i64 y'.rsp.code,.slice fa fn fc] 64);have HTa:=Lib.hid (HT8.out.below ba);have HSa:=Lib.hid (HS.out.trans (Step.of_below [] ba));have HUa:=Lib.hid (HUy'.out.step (Step.of_below [] ba) (by simp));have hcell:∀ (j:Nat) (hj:j<([.int .i64 y'.who,.int .i64 y'.n,.int .i64 y'.rsp.id,.int .i64 y'.rsp.code,.slice fa fn fc]:List Value).length),(w8.alloc (.cells #[.int .i64 y'.who,.int .i64 y'.n,.int .i64 y'.rsp.id,.int .i64 y'.rsp.code,.slice fa fn fc] 64)).cell? ((⟨w8.heap.size,0,none⟩:Addr).add j)=some ([.int .i64 y'.who,.int .i64 y'.n,.int .i64 y'.rsp.id,.int .i64 y'.rsp.code,.slice fa fn fc]:List Value)[j]:=alloc1_news5 w8 _ _;go_wp2_with (at_builtin;refine wpList_appendT (k:=3) (cs:=[.int .i64 y'.who,.int .i64 y'.n,.int .i64 y'.rsp.id,.int .i64 y'.rsp.code,.slice fa fn fc]) rfl _ _ 56 64 i0 (.agg #[.int .i64 0,.int .i64 0,.int .i64 0,.int .i64 0,.slice none 0 0]) 56 rfl Try.underlying56 ki kz0 kz1 kz2 rfl (by decide) rfl rfl HTa.out HA8.out rfl HUa.out hcell (by simp [Value.oneCell']) hN3 ?_;intro ao'' cap'' T'' w9 t9 s9 a9;have HT9:=Lib.hid t9;have HS9:=Lib.hid (HSa.out.trans s9);have HA9:=Lib.hid a9;clear t9 s9 a9 hcell ba)
      go_roundw
      case rel=>exact ⟨k+1,m+1+1,true,T'',ao'',cap'',by omega,by go_num,rfl,rfl,by rw [HM.out];simp,HT9.out,HS9.out,HA9.out⟩
      case measure=>simp [intOf];omega
   ·skip
    go_wp2_with fail
    have hst:∀ F,F∈[FEq (.bool true),FEq (.bool false),FEq (.bool false),FEq undef,FEq undef,FEq undef,FEq undef,FEq undef,FEq undef,FEq (.bool false)]->Stable [] F:=by repeat first|exact st_nil|refine st_eq ?_
    refine wp_skipH hst tbl5Put6 (fun _ w'=>Below wr.heap.size wr w') 43 10 10 [some 15,some 16,some 17,some 18,some 19,some 20,some 21,some 22,some 23,some 24] [] [3,4,5,6,7,8] [(2,false)] ?h0 ?hop ?hend
    case h0=>exact (Below.refl _ _).drew
    case hop =>
     refine ⟨⟨⟨⟨⟨⟨⟨⟨⟨⟨trivial,?_⟩,?_⟩,?_⟩,?_⟩,?_⟩,?_⟩,?_⟩,?_⟩,?_⟩,?_⟩
     all_goals first|exact .inl (by decide)|skip
     ·exact .inr (Owes.k0 43 [(6,.bool true)])
     ·exact .inr (Owes.k1 43 15 0)
     ·exact .inr (Owes.k1 43 16 1)
     ·exact .inr (Owes.k2 43 17 2 23 8)
    case hend =>
     intro u w' hI hR;simp only [setAll,List.set_cons_zero,List.set_cons_succ];unfold wpList;have e9:u 9=_:=hR 9 (by decide);rw [e9];obtain ⟨w6,hw6⟩:∃ z,z=w':=⟨_,rfl⟩;subst hw6;replace HT:=Lib.hid (HT.out.below hI);replace HS:=Lib.hid (HS.out.trans (Step.of_below [] hI));replace HUy:=Lib.hid (HUy.out.step (Step.of_below [] hI) (by simp));replace l0:=keep_cell hI l0;replace l1:=keep_cell hI l1;replace l2:=keep_cell hI l2;replace l3:=keep_cell hI l3;replace l4:=keep_cell hI l4;clear hR hI hst e9 j0 j1 j2 j3 j4;have hN2:m<=2000000:=by omega
     have ba:=below_alloc w6 (.cells #[.int .i64 y.who,.int .i64 y.n,.int .i64 y.rsp.id,.int .i64 y.rsp.code,.slice ea en ec] 64);have HTa:=Lib.hid (HT.out.below ba);have HSa:=Lib.hid (HS.out.trans (Step.of_below [] ba));have HUa:=Lib.hid (HUy.out.step (Step.of_below [] ba) (by simp));have hcell:∀ (j:Nat) (hj:j<([.int .i64 y.who,.int .i64 y.n,.int .i64 y.rsp.id,.int .i64 y.rsp.code,.slice ea en ec]:List Value).length),(w6.alloc (.cells #[.int .i64 y.who,.int .i64 y.n,.int .i64 y.rsp.id,.int .i64 y.rsp.code,.slice ea en ec] 64)).cell? ((⟨w6.heap.size,0,none⟩:Addr).add j)=some ([.int .i64 y.who,.int .i64 y.n,.int .i64 y.rsp.id,.int .i64 y.rsp.code,.slice ea en ec]:List Value)[j]:=alloc1_news5 w6 _ _;go_wp2_with (at_builtin;refine wpList_appendT (k:=3) (cs:=[.int .i64 y.who,.int .i64 y.n,.int .i64 y.rsp.id,.int .i64 y.rsp.code,.slice ea en ec]) rfl _ _ 56 64 i0 (.agg #[.int .i64 0,.int .i64 0,.int .i64 0,.int .i64 0,.slice none 0 0]) 56 rfl Try.underlying56 ki kz0 kz1 kz2 rfl (by decide) rfl rfl HTa.out HA.out rfl HUa.out hcell (by simp [Value.oneCell']) hN2 ?_;intro ao' cap' T' w8 t8 s8 a8;have HT8:=Lib.hid t8;have HS8:=Lib.hid (HSa.out.trans s8);have HA8:=Lib.hid a8;have HX8:=Lib.hid s8;clear t8 s8 a8 hcell ba)
     go_roundw
     case rel=>exact ⟨k+1,m+1,true,T',ao',cap',by omega,by go_num,rfl,rfl,by rw [HM.out];simp,HT8.out,HS8.out,HA8.out⟩
     case measure=>simp [intOf];omega
  ·have hkn:k=n:=by omega
   have HKN:=Lib.hid hkn;clear hkn;have HUx:=Lib.hid (HU1.out.step HS.out (by simp));have hN2:m<=2000000:=by omega
   cases b
   ·skip
    have ba:=below_alloc wr (.cells #[.int .i64 x.who,.int .i64 x.n,.int .i64 x.rsp.id,.int .i64 x.rsp.code,.slice da dn dc] 64);have HTa:=Lib.hid (HT.out.below ba);have HSa:=Lib.hid (HS.out.trans (Step.of_below [] ba));have HUa:=Lib.hid (HUx.out.step (Step.of_below [] ba) (by simp));have hcell:∀ (j:Nat) (hj:j<([.int .i64 x.who,.int .i64 x.n,.int .i64 x.rsp.id,.int .i64 x.rsp.code,.slice da dn dc]:List Value).length),(wr.alloc (.cells #[.int .i64 x.who,.int .i64 x.n,.int .i64 x.rsp.id,.int .i64 x.rsp.code,.slice da dn dc] 64)).cell? ((⟨wr.heap.size,0,none⟩:Addr).add j)=some ([.int .i64 x.who,.int .i64 x.n,.int .i64 x.rsp.id,.int .i64 x.rsp.code,.slice da dn dc]:List Value)[j]:=alloc1_news5 wr _ _;go_wp2_with (at_builtin;refine wpList_appendT (k:=3) (cs:=[.int .i64 x.who,.int .i64 x.n,.int .i64 x.rsp.id,.int .i64 x.rsp.code,.slice da dn dc]) rfl _ _ 56 64 i0 (.agg #[.int .i64 0,.int .i64 0,.int .i64 0,.int .i64 0,.slice none 0 0]) 56 rfl Try.underlying56 ki kz0 kz1 kz2 rfl (by decide) rfl rfl HTa.out HA.out rfl HUa.out hcell (by simp [Value.oneCell']) hN2 ?_;intro ao' cap' T' w8 t8 s8 a8;have HT8:=Lib.hid t8;have HS8:=Lib.hid (HSa.out.trans s8);have HA8:=Lib.hid a8;have HX8:=Lib.hid s8;have HSl:=Lib.hid (Step.of_below (T:=T) [] ba);clear t8 s8 a8 hcell ba)
    have hmn:m+1=n+1:=by have h1:=HM.out;have h2:=HKN.out;simp at h1;omega
    have h1:=HA8.out;rw [hmn] at h1;have H1:=Lib.hid h1;have HMN:=Lib.hid hmn;clear h1 hmn;go_wp2;go_ret;exact ⟨T',ao',cap',by rw [<- HMN.out];rfl,HT8.out,HS1.out.trans HS8.out,H1.out⟩
   ·have hmn:m=n+1:=by have h1:=HM.out;have h2:=HKN.out;simp at h1;omega
    have h1:=HA.out;rw [hmn] at h1;have H1:=Lib.hid h1;have HMN:=Lib.hid hmn;clear h1 hmn;go_wp2;go_ret;exact ⟨T,a,c,by rw [<- HMN.out];rfl,HT.out,HS1.out.trans HS.out,H1.out⟩
set_option maxRecDepth 100000 in
set_option maxHeartbeats 3200000 in
theorem l5Out_b {G:Gd} (L:List Nat) (T0:Tab) (a0:Option Addr) (n c0:Nat) (at_:Int) (hn:n<=1000) (w:World) (hT:TH G L T0 w) (hA:SlA T0 3 a0 n c0) :
 Calls Try.prog 139 #[.slice a0 n c0,.int .i64 at_] w fun e w'=>∃ T a m c,e = .returned (.slice a m c)∧m<=n∧TH G L T w'∧Step [] T0 w T w'∧SlA T 3 a m c:=by
 obtain ⟨i0,ki,kz0,kz1,kz2⟩:=info_parts infoJob;obtain ⟨t8,s8,a8⟩:=hT.lit0 3 64;have HT8:=Lib.hid t8;have HL8:=Lib.hid s8;have HA8:=Lib.hid a8;have HA0:=Lib.hid hA;clear hT hA t8 s8 a8;go_enter Try.func139,Try.ntmps139
 go_wp2_with fail
 go_loopw [5,6] (fun v i wr=>∃ (k m:Nat) (T:Tab) (a:Option Addr) (c:Nat),k<=n∧i = .int .i64 k∧v = .slice a m c∧m<=k∧TH G L T wr∧Step [] T0 w T wr∧SlA T 3 a m c) (fun _ i _=>n - (intOf i).toNat)
 case atStart=>exact ⟨0,0,_,_,_,Nat.zero_le _,rfl,rfl,Nat.le_refl _,HT8.out,HL8.out,HA8.out⟩
 case round =>
  clear HT8 HL8 HA8;obtain ⟨k,m,T,a,c,hk,rfl,rfl,hm,hth,hst_,ha⟩:=hrel;have HT:=Lib.hid hth;have HS:=Lib.hid hst_;have HA:=Lib.hid ha;clear hth hst_ ha;by_cases hlt:k<n
  ·have hlti:(k:Int)<(n:Int):=by omega
   obtain ⟨bl,ol,y,ea,en,ec,rfl,hc,hfy,hUy⟩:=((HA0.out.ext HS.out.ext).t).job hlt HT.out;have l0:=hc 0 (by simp);have l1:=hc 1 (by simp);have l2:=hc 2 (by simp);have l3:=hc 3 (by simp);have l4:=hc 4 (by simp);simp only [Nat.add_zero,List.getElem_cons_zero,List.getElem_cons_succ] at l0 l1 l2 l3 l4;have HUy:=Lib.hid hUy;clear hc hfy hUy;have hN2:m<=2000000:=by omega
   cases hq:((k:Int) != at_)
   ·go_wp2
    go_roundw
    case rel=>exact ⟨k+1,m,T,a,c,by omega,by go_num,rfl,by omega,HT.out,HS.out,HA.out⟩
    case measure=>simp [intOf];omega
   ·skip
    have ba:=below_alloc wr (.cells #[.int .i64 y.who,.int .i64 y.n,.int .i64 y.rsp.id,.int .i64 y.rsp.code,.slice ea en ec] 64);have HTa:=Lib.hid (HT.out.below ba);have HSa:=Lib.hid (HS.out.trans (Step.of_below [] ba));have HUa:=Lib.hid (HUy.out.step (Step.of_below [] ba) (by simp));have hcell:∀ (j:Nat) (hj:j<([.int .i64 y.who,.int .i64 y.n,.int .i64 y.rsp.id,.int .i64 y.rsp.code,.slice ea en ec]:List Value).length),(wr.alloc (.cells #[.int .i64 y.who,.int .i64 y.n,.int .i64 y.rsp.id,.int .i64 y.rsp.code,.slice ea en ec] 64)).cell? ((⟨wr.heap.size,0,none⟩:Addr).add j)=some ([.int .i64 y.who,.int .i64 y.n,.int .i64 y.rsp.id,.int .i64 y.rsp.code,.slice ea en ec]:List Value)[j]:=alloc1_news5 wr _ _;go_wp2_with (at_builtin;refine wpList_appendT (k:=3) (cs:=[.int .i64 y.who,.int .i64 y.n,.int .i64 y.rsp.id,.int .i64 y.rsp.code,.slice ea en ec]) rfl _ _ 56 64 i0 (.agg #[.int .i64 0,.int .i64 0,.int .i64 0,.int .i64 0,.slice none 0 0]) 56 rfl Try.underlying56 ki kz0 kz1 kz2 rfl (by decide) rfl rfl HTa.out HA.out rfl HUa.out hcell (by simp [Value.oneCell']) hN2 ?_;intro ao' cap' T' w8 t8 s8 a8;have HT8:=Lib.hid t8;have HS8:=Lib.hid (HSa.out.trans s8);have HA8:=Lib.hid a8;have HX8:=Lib.hid s8;clear t8 s8 a8 hcell ba)
    go_roundw
    case rel=>exact ⟨k+1,m+1,T',ao',cap',by omega,by go_num,rfl,by omega,HT8.out,HS8.out,HA8.out⟩
    case measure=>simp [intOf];omega
  ·go_wp2;go_ret;exact ⟨T,a,m,c,rfl,by omega,HT.out,HS.out,HA.out⟩
end Go.Proofs.Ytmcjklicepaiaaa
