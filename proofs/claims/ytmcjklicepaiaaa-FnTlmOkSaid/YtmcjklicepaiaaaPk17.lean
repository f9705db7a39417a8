/-
 Texts of this claim laid together: TOk4.
-/
import Derived.Test.YtmcjklicepaiaaaPk16
set_option linter.unusedVariables false
set_option linter.unusedSimpArgs false
namespace Go.Proofs.Ytmcjklicepaiaaa
def tbl5Told5:List (List Nat):=[[],[0],[0,1],[0,1,2],[0,1,2,3],[0,1,2,3,4],[0,1,2,3,4,5],[0,1,2,3,4],[0,1,2,3,4,7],[0,1,2,3,4],[0,1,2,3,4,9],[0,1,2,3,4,7,8,9,10],[0,1,2,3,4,7,8,9,10,11],[0,1,2,3,4,7,8,9,10,11,12],[0,1,2,3,4,5,6,7,8,9,10,11,12,13],[0,1,2,3,4,5,6,7,8,9,10,11,12,13,14],[0,1,2,3,4,5,6,7,8,9,10,11,12,13,14,15],[0,1,2,3,4,5,6,7,8,9,10,11,12,13,14,15,16],[0,1,2,3,4,5,6,7,8,9,10,11,12,13,14,15,16,17],[0,1,2,3,4,5,6,7,8,9,10,11,12,13,14,15,16,17,18],[0,1,2,3,4,5,6,7,8,9,10,11,12,13,14,15,16,17,18,19],[0,1,2,3,4,5,6,7,8,9,10,11,12,13,14,15,16,17,18,19,20],[0,1,2,3,4,5,6,7,8,9,10,11,12,13,14,15,16,17,18,19,20,21],[0,1,2,3,4,5,6,7,8,9,10,11,12,13,14,15,16,17,18,19,20,21,22],[0,1,2,3,4,5,6,7,8,9,10,11,12,13,14,15,16,17,18,19,20,21,22,23],[0,1,2,3,4,5,6,7,8,9,10,11,12,13,14,15,16,17,18,19,20,21,22,23,24],[0,1,2,3,4,5,6,7,8,9,10,11,12,13,14,15,16,17,18,19,20,21,22,23,24,25],[0,1,2,3,4,5,6,7,8,9,10,11,12,13,14,15,16,17,18,19,20,21,22,23],[0,1,2,3,4,5,6,7,8,9,10,11,12,13,14,15,16,17,18,19,20,21,22,23,27],[0,1,2,3,4,5,6,7,8,9,10,11,12,13,14,15,16,17,18,19,20,21,22,23],[0,1,2,3,4,5,6,7,8,9,10,11,12,13,14,15,16,17,18,19,20,21,22,23,29],[0,1,2,3,4,5,6,7,8,9,10,11,12,13,14,15,16,17,18,19,20,21,22,23,27,28,29,30],[0,1,2,3,4,5,6,7,8,9,10,11,12,13,14,15,16,17,18,19,20,21,22,23,27,28,29,30,31],[0,1,2,3,4,5,6,7,8,9,10,11,12,13,14,15,16,17,18,19,20,21,22,23],[0,1,2,3,4,5,6,7,8,9,10,11,12,13,14,15,16,17,18,19,20,21,22,23,33],[0,1,2,3,4,5,6,7,8,9,10,11,12,13,14,15,16,17,18,19,20,21,22,23,27,28,29,30,31,32,33,34],[0,1,2,3,4,5,6,7,8,9,10,11,12,13,14,15,16,17,18,19,20,21,22,23,27,28,29,30,31,32,33,34,35],[0,1,2,3,4,5,6,7,8,9,10,11,12,13,14,15,16,17,18,19,20,21,22,23,27,28,29,30,31,32,33,34,35,36],[0,1,2,3,4,5,6,7,8,9,10,11,12,13,14,15,16,17,18,19,20,21,22,23,24,25,26,27,28,29,30,31,32,33,34,35,36,37],[0,1,2,3,4,5,6,7,8,9,10,11,12,13,14,15,16,17,18,19,20,21,22,23,24,25,26,27,28,29,30,31,32,33,34,35,36,37,38],[0,1,2,3,4,5,6,7,8,9,10,11,12,13,14,15,16,17,18,19,20,21,22,23,24,25,26,27,28,29,30,31,32,33,34,35,36,37,38,39],[0,1,2,3,4,5,6,7,8,9,10,11,12,13,14,15,16,17,18,19,20,21,22,23,24,25,26,27,28,29,30,31,32,33,34,35,36,37,38,39,40],[0,1,2,3,4,5,6,7,8,9,10,11,12,13,14,15,16,17,18,19,20,21,22,23,24,25,26,27,28,29,30,31,32,33,34,35,36,37,38,39,40,41],[0,1,2,3,4,5,6,7,8,9,10,11,12,13,14,15,16,17,18,19,20,21,22,23,24,25,26,27,28,29,30,31,32,33,34,35,36,37,38,39,40],[0,1,2,3,4,5,6,7,8,9,10,11,12,13,14,15,16,17,18,19,20,21,22,23,24,25,26,27,28,29,30,31,32,33,34,35,36,37,38,39,40,41,42,43],[0,1,2,3,4,5,6,7,8,9,10,11,12,13,14,15,16,17,18,19,20,21,22,23,24,25,26,27,28,29,30,31,32,33,34,35,36,37,38,39,40],[0,1,2,3,4,5,6,7,8,9,10,11,12,13,14,15,16,17,18,19,20,21,22,23,24,25,26,27,28,29,30,31,32,33,34,35,36,37,38,39,40,45],[0,1,2,3,4,5,6,7,8,9,10,11,12,13,14,15,16,17,18,19,20,21,22,23,24,25,26,27,28,29,30,31,32,33,34,35,36,37,38,39,40],[0,1,2,3,4,5,6,7,8,9,10,11,12,13,14,15,16,17,18,19,20,21,22,23,24,25,26,27,28,29,30,31,32,33,34,35,36,37,38,39,40,47],[0,1,2,3,4,5,6,7,8,9,10,11,12,13,14,15,16,17,18,19,20,21,22,23,24,25,26,27,28,29,30,31,32,33,34,35,36,37,38,39,40,41,42,43,44,45,46,47,48],[0,1,2,3,4,5,6,7,8,9,10,11,12,13,14,15,16,17,18,19,20,21,22,23,24,25,26,27,28,29,30,31,32,33,34,35,36,37,38,39,40,41,42,43,44,45,46,47,48,49],[0,1,2,3,4,5,6,7,8,9,10,11,12,13,14,15,16,17,18,19,20,21,22,23,24,25,26,27,28,29,30,31,32,33,34,35,36,37,38,39,40,41,42,43,44,45,46,47,48,49,50]]
open Go.RowKit Go.ChangeShapes
def FreshTo (l:List Job) (m:Nat):Prop:=∀ k (h:k<l.length),k<m->(l.take k).any (isJob l[k].who l[k].n)=false
noncomputable def fresh (l:List Job):Bool:=@decide (FreshTo l l.length) (Classical.propDecidable _)
theorem FreshTo.zero (l:List Job):FreshTo l 0:=fun k _ h=>absurd h (Nat.not_lt_zero k)
theorem FreshTo.step {l:List Job} {m:Nat} (h:FreshTo l m) {hm:m<l.length} (hb:(l.take m).any (isJob l[m].who l[m].n)=false):FreshTo l (m+1):=fun k hk h1=>by
 by_cases e:k=m
 ·subst e;exact hb
 ·exact h k hk (by omega)
theorem fresh_yes {l:List Job} {m:Nat} (h:FreshTo l m) (hm:l.length<=m):fresh l=true:=by
 unfold fresh;exact @decide_eq_true _ (Classical.propDecidable _) fun k hk _=>h k hk (by omega)
theorem fresh_no {l:List Job} {m:Nat} (hm:m<l.length) (hb:(l.take m).any (isJob l[m].who l[m].n)=true):fresh l=false:=by
 unfold fresh;exact @decide_eq_false _ (Classical.propDecidable _) fun h=>by have:=h m hm hm;rw [hb] at this;cases this
theorem fresh_at {l:List Job} (h:fresh l=true):FreshTo l l.length:=by
 unfold fresh at h;exact @of_decide_eq_true _ (Classical.propDecidable _) h
noncomputable def toldOk (c:Bus) (asked:List Int) (l:List Job):Bool:=l.all (jobGood c asked true) && fresh l
theorem told_no1 {c:Bus} {asked:List Int} {l:List Job} {k:Nat} (hk:k<l.length) (h:jobGood c asked true l[k]=false):toldOk c asked l=false:=by
 unfold toldOk;rw [show l.all (jobGood c asked true)=false by rw [List.all_eq_false];exact ⟨l[k],List.getElem_mem hk,by simp [h]⟩];rfl
theorem told_no2 {c:Bus} {asked:List Int} {l:List Job} (h:fresh l=false):toldOk c asked l=false:=by
 unfold toldOk;rw [h,Bool.and_false]
theorem told_yes {c:Bus} {asked:List Int} {l:List Job} (h:∀ k (hk:k<l.length),jobGood c asked true l[k]=true) (hr:fresh l=true):toldOk c asked l=true:=by
 unfold toldOk;rw [hr,Bool.and_true,List.all_eq_true];intro x hx;obtain ⟨k,hk,rfl⟩:=List.mem_iff_getElem.1 hx;exact h k hk
set_option maxRecDepth 100000 in
set_option maxHeartbeats 12800000 in
theorem l5Told_any (c:Bus) (asked:List Int) (l:List Job) (hc:AskOk c asked) (v0 v1 v2 s0 s1 va s3 s4 v:Value) (fp2 fa fp:List Nat) (w:World) (g2:SlR 1 (slR 7 reqR) w c.progs v2 fp2) (ga:SlR 1 intR w asked va fa) (g:SlR 5 jobR w l v fp) :
 Calls Try.prog 86 #[.agg #[v0,v1,v2],.agg #[s0,s1,va,s3,s4,v]] w fun e w'=>e = .returned (.bool (toldOk c asked l))∧Below w.heap.size w w':=by
 obtain ⟨a,n,cap,rfl,hn,hcap,hmax,hcm,r⟩:=g.opened;obtain ⟨aa,an,ac,rfl,han,-,-,-,ra⟩:=ga.opened;obtain ⟨a2,pn,pc,rfl,hpn,-,-,-,rp⟩:=g2.opened;clear r ra rp;obtain ⟨w1,hw1⟩:∃ z,z=(w.alloc (.cells #[v0,v1,.slice a2 pn pc] 38)).alloc (.cells #[s0,s1,.slice aa an ac,s3,s4,.slice a n cap] 70):=⟨_,rfl⟩;have b1:Below w.heap.size w w1:=by rw [hw1];exact (below_alloc _ _).trans ((below_alloc _ _).mono (by simp))
 have x2:w1.cell? ⟨w.heap.size,2,none⟩=some (.slice a2 pn pc):=by rw [hw1];exact alloc_keep (alloc1_new _ _ _ 2 rfl) _
 have y2:w1.cell? ⟨w.heap.size+1,2,none⟩=some (.slice aa an ac):=by rw [hw1];exact alloc2_new _ _ _ _ _ 2 rfl
 have y5:w1.cell? ⟨w.heap.size+1,5,none⟩=some (.slice a n cap):=by rw [hw1];exact alloc2_new _ _ _ _ _ 5 rfl
 have G:=Lib.hid (SlR.below jobR_fits g b1);have G2:=Lib.hid (SlR.below (slR_fits reqR_fits) g2 b1);have GA:=Lib.hid (SlR.below intR_fits ga b1);have B1:=Lib.hid b1;have HC:=Lib.hid hc;have HX:=Lib.hid x2;have HY2:=Lib.hid y2;have HY5:=Lib.hid y5;clear g g2 ga b1 hc x2 y2 y5;go_enter Try.func86,Try.ntmps86
 go_upto_region 1 with fail
 rw [<- hw1];clear hw1;go_wp2_with fail
 go_loopw [5] (fun i wr=>∃ k:Nat,k<=n∧i = .int .i64 k∧(∀ j (h:j<l.length),j<k->jobGood c asked true l[j]=true)∧FreshTo l k∧Below w.heap.size w wr∧Below w1.heap.size w1 wr) (fun i _=>n - (intOf i).toNat)
 case atStart=>exact ⟨0,Nat.zero_le _,rfl,fun j _ h=>absurd h (Nat.not_lt_zero j),FreshTo.zero l,B1.out,Below.refl _ _⟩
 case round =>
  obtain ⟨k,hk,rfl,hg,hr,hb,hb1⟩:=hrel;have HG:=Lib.hid hg;have HR:=Lib.hid hr;have HB:=Lib.hid hb;have S5:=keep_cell hb1 HY5.out;clear hg hr hb;by_cases hlt:k<n
  ·have hL:k<l.length:=by rw [hn.out];exact hlt
   have Gk:=Lib.hid (SlR.below jobR_fits G.out hb1);obtain ⟨lb,lo,jv,df,rfl,hlb,-,-,⟨q0,q1,q2,q3,q4⟩,gd⟩:=jobs_at Gk.out hL;obtain ⟨⟨jw,jn,⟨ji,jc,jd⟩⟩,hj⟩:∃ z,l[k]=z:=⟨_,rfl⟩;rw [hj] at q0 q1 q2 q3 gd;have HJ:=Lib.hid hj;obtain ⟨dva,dvn,dvc,rfl,hdv,-,-,-,-⟩:=gd.opened;have hkn:(k:Int)<(n:Int):=by omega
   clear hdv;go_upto_region 5 with fail
   obtain ⟨w4,hw4⟩:∃ z,z=wr.alloc (.cells #[.int .i64 jw,.int .i64 jn,.int .i64 ji,.int .i64 jc,.slice dva dvn dvc] 64):=⟨_,rfl⟩;rw [<- hw4];have b4:Below wr.heap.size wr w4:=by rw [hw4];exact below_alloc _ _
   have D0:w4.cell? ⟨wr.heap.size,0,none⟩=some (.int .i64 jw):=by rw [hw4];exact alloc1_new _ _ _ 0 rfl
   have D1:w4.cell? ⟨wr.heap.size,1,none⟩=some (.int .i64 jn):=by rw [hw4];exact alloc1_new _ _ _ 1 rfl
   have D2:w4.cell? ⟨wr.heap.size,2,none⟩=some (.int .i64 ji):=by rw [hw4];exact alloc1_new _ _ _ 2 rfl
   have D3:w4.cell? ⟨wr.heap.size,3,none⟩=some (.int .i64 jc):=by rw [hw4];exact alloc1_new _ _ _ 3 rfl
   have D4:w4.cell? ⟨wr.heap.size,4,none⟩=some (.slice dva dvn dvc):=by rw [hw4];exact alloc1_new _ _ _ 4 rfl
   have B4:=Lib.hid (HB.out.trans (b4.mono HB.out.size));have b14:=hb1.trans (b4.mono hb1.size);have B14:=Lib.hid b14;have GD4:=Lib.hid (SlR.below intR_fits gd b4);replace S5:=keep_cell b4 S5;clear hw4 b4 q0 q1 q2 q3 q4 gd hj;generalize wr.heap.size=bj at *;obtain ⟨bw,hw⟩:∃ z,inB jw 0 2=z:=⟨_,rfl⟩;have HWho:=Lib.hid hw;cases bw
   ·have HNo:Hid (jobGood c asked true l[k]=false):=Lib.hid (by rw [HJ.out];unfold jobGood jobFit;simp only [HWho.out,Bool.false_and]);clear b14 hb1 hw S5;have hst:∀ F,F∈[FEq (.pointer (some ⟨bj,0,none⟩)),FEq (.int .i64 jw),FEq (.bool false),FEq (.bool true),FEq (.bool true),FEq undef,FEq undef,FEq undef,FEq undef,FEq undef,FEq undef,FEq undef,FEq undef,FEq undef,FEq undef,FEq undef,FEq (.bool true),FEq (.bool true),FEq undef,FEq undef,FEq undef,FEq undef,FEq (.bool true),FEq (.bool true),FEq undef,FEq undef,FEq undef,FEq undef,FEq undef,FEq undef,FEq undef,FEq undef,FEq undef,FEq undef,FEq undef,FEq undef,FEq undef,FEq undef,FEq undef,FEq (.bool true),FEq (.bool true),FEq undef,FEq undef,FEq undef,FEq undef,FEq undef,FEq undef,FEq undef,FEq undef,FEq undef,FEq undef]->Stable [] F:=by repeat first|exact st_nil|refine st_eq ?_
    refine wp_skipH hst tbl5Told5 (fun _ w'=>Below w4.heap.size w4 w') 71 52 51 [some 19,some 20,some 21,some 22,some 23,some 24,some 25,some 26,some 27,some 28,some 29,some 30,some 31,some 32,some 33,some 34,some 35,some 36,some 37,some 38,some 39,some 40,some 41,some 42,some 43,some 44,some 45,some 46,some 47,some 48,some 49,some 50,some 51,some 52,some 53,some 54,some 55,some 56,some 57,some 58,some 59,some 60,some 61,some 62,some 63,some 64,some 65,some 66,some 67,some 68,some 69] _ [5,6,7,8,9,10,11,12,13,14,15,18,19,20,21,24,25,26,27,28,29,30,31,32,33,34,35,36,37,38,41,42,43,44,45,46,47,48,49,50] [(17,true),(23,true),(4,true),(40,true)] ?h0 ?hop ?hend
    case h0=>exact (Below.refl _ _).drew
    case hop =>
     refine ⟨⟨⟨⟨⟨⟨⟨⟨⟨⟨⟨⟨⟨⟨⟨⟨⟨⟨⟨⟨⟨⟨⟨⟨⟨⟨⟨⟨⟨⟨⟨⟨⟨⟨⟨⟨⟨⟨⟨⟨⟨⟨⟨⟨⟨⟨⟨⟨⟨⟨⟨trivial,?_⟩,?_⟩,?_⟩,?_⟩,?_⟩,?_⟩,?_⟩,?_⟩,?_⟩,?_⟩,?_⟩,?_⟩,?_⟩,?_⟩,?_⟩,?_⟩,?_⟩,?_⟩,?_⟩,?_⟩,?_⟩,?_⟩,?_⟩,?_⟩,?_⟩,?_⟩,?_⟩,?_⟩,?_⟩,?_⟩,?_⟩,?_⟩,?_⟩,?_⟩,?_⟩,?_⟩,?_⟩,?_⟩,?_⟩,?_⟩,?_⟩,?_⟩,?_⟩,?_⟩,?_⟩,?_⟩,?_⟩,?_⟩,?_⟩,?_⟩,?_⟩
     all_goals first|exact .inl (by decide)|skip
     ·exact .inr (Owes.k0 71 [(6,.pointer (some ⟨bj,0,none⟩))])
     ·exact .inr (Owes.c1 71 19 0 D0)
     ·refine .inr (Owes.mk _ rfl rfl (fun _ _ h=>by cases h) fun u m w' hm hI hR=>⟨⟨(frm 71 [(20,u 1)]).toArray,[]⟩,rfl,fun d hd=>by cases hd;exact frm_lt (by decide),?_⟩);dsimp only [frm,List.foldl,List.replicate,List.set];have e1:u 1=_:=hR 1 (by decide);rw [e1];clear e1;have HI:=Lib.hid hI;clear hI hst;go_wp2_with fail
      refine (l1In_v HWho.out _).mono ?_;rintro e w5 ⟨rfl,rfl⟩;go_wp2;exact ⟨rfl,_,rfl,rfl,HI.out,fun _ _ h=>h⟩
     ·exact .inr (Owes.k1 71 21 2)
     ·exact .inr (Owes.k1 71 22 3)
     ·exact .inr (Owes.k2 71 23 4 34 15)
     ·exact .inr (Owes.k1 71 35 16)
     ·exact .inr (Owes.k2 71 36 17 40 21)
     ·exact .inr (Owes.k1 71 41 22)
     ·exact .inr (Owes.k2 71 42 23 57 38)
     ·exact .inr (Owes.k1 71 58 39)
    case hend =>
     intro u w' hI hR;simp only [setAll,List.set_cons_zero,List.set_cons_succ];have e40:u 40=_:=hR 40 (by decide);rw [e40];clear e40;have HB5:=Lib.hid (B4.out.trans (hI.mono B4.out.size));clear hR hst hI D0 D1 D2 D3 D4;go_wp2;go_ret;exact ⟨ret_bool (told_no1 hL HNo.out).symm,HB5.out⟩
   ·have hw2:=inB_true.1 hw;obtain ⟨uu,rfl⟩:=Int.eq_ofNat_of_zero_le hw2.1;have hu3:uu<asked.length:=by rw [HC.out.la];omega
    have hu4:uu<c.progs.length:=by rw [HC.out.lp];omega
    obtain ⟨au,hau⟩:∃ z,asked[uu]=z:=⟨_,rfl⟩;obtain ⟨ha1,ha2,ha3⟩:=HC.out.at' uu hu3 hu4;rw [hau] at ha1 ha2;have Gak:=Lib.hid (SlR.below intR_fits GA.out b14);obtain ⟨_,_,_,ea,-,-,-,-,ra⟩:=Gak.out.opened;cases ea;obtain ⟨_,ab,ao,_,cs,rfl,-,-,-,⟨rfl,-⟩,ea⟩:=ra uu (by rw [<- han.out];exact hu3);have A0:=ea 0 (by simp);simp only [Nat.mul_one,Nat.add_zero,List.getElem_cons_zero] at A0;rw [hau] at A0;have S2:=keep_cell b14 HY2.out;have hua:(uu:Int)<(an:Int):=by have:=han.out;omega
    have HU:Hid (∀ (x:Int) (r:Rsp),jobFit asked ⟨uu,x,r⟩=inB x 0 (au - 1)):=Lib.hid (fun x r=>by rw [fit_at hu3 rfl,HWho.out,hau];rfl);clear ra ea hw hau hw2;obtain ⟨bn,hbn⟩:∃ z,inB jn 0 (au - 1)=z:=⟨_,rfl⟩;have HN:=Lib.hid hbn;cases bn
    ·have HNo:Hid (jobGood c asked true l[k]=false):=Lib.hid (by rw [HJ.out];unfold jobGood;rw [HU.out,HN.out];rfl);clear b14 hb1 hbn S5;have hst:∀ F,F∈[FEq (.pointer (some ⟨bj,0,none⟩)),FEq (.int .i64 (uu:Int)),FEq (.bool true),FEq (.bool false),FEq (.bool false),FEq (.pointer (some ⟨bj,1,none⟩)),FEq (.int .i64 jn),FEq (.pointer (some ⟨w.heap.size+1,2,none⟩)),FEq (.slice (some ⟨ab,ao,none⟩) an ac),FEq (.pointer (some ⟨bj,0,none⟩)),FEq (.int .i64 (uu:Int)),FEq (.pointer (some ⟨ab,ao+uu,none⟩)),FEq (.int .i64 au),FEq (.int .i64 (au - 1)),FEq (.bool false),FEq (.bool true),FEq (.bool true),FEq (.bool true),FEq undef,FEq undef,FEq undef,FEq undef,FEq (.bool true),FEq (.bool true),FEq undef,FEq undef,FEq undef,FEq undef,FEq undef,FEq undef,FEq undef,FEq undef,FEq undef,FEq undef,FEq undef,FEq undef,FEq undef,FEq undef,FEq undef,FEq (.bool true),FEq (.bool true),FEq undef,FEq undef,FEq undef,FEq undef,FEq undef,FEq undef,FEq undef,FEq undef,FEq undef,FEq undef]->Stable [] F:=by repeat first|exact st_nil|refine st_eq ?_
     refine wp_skipH hst tbl5Told5 (fun _ w'=>Below w4.heap.size w4 w') 71 52 51 [some 19,some 20,some 21,some 22,some 23,some 24,some 25,some 26,some 27,some 28,some 29,some 30,some 31,some 32,some 33,some 34,some 35,some 36,some 37,some 38,some 39,some 40,some 41,some 42,some 43,some 44,some 45,some 46,some 47,some 48,some 49,some 50,some 51,some 52,some 53,some 54,some 55,some 56,some 57,some 58,some 59,some 60,some 61,some 62,some 63,some 64,some 65,some 66,some 67,some 68,some 69] _ [18,19,20,21,24,25,26,27,28,29,30,31,32,33,34,35,36,37,38,41,42,43,44,45,46,47,48,49,50] [(17,true),(23,true),(4,false),(40,true)] ?h0 ?hop ?hend
     case h0=>exact (Below.refl _ _).drew
     case hop =>
      refine ⟨⟨⟨⟨⟨⟨⟨⟨⟨⟨⟨⟨⟨⟨⟨⟨⟨⟨⟨⟨⟨⟨⟨⟨⟨⟨⟨⟨⟨⟨⟨⟨⟨⟨⟨⟨⟨⟨⟨⟨⟨⟨⟨⟨⟨⟨⟨⟨⟨⟨⟨trivial,?_⟩,?_⟩,?_⟩,?_⟩,?_⟩,?_⟩,?_⟩,?_⟩,?_⟩,?_⟩,?_⟩,?_⟩,?_⟩,?_⟩,?_⟩,?_⟩,?_⟩,?_⟩,?_⟩,?_⟩,?_⟩,?_⟩,?_⟩,?_⟩,?_⟩,?_⟩,?_⟩,?_⟩,?_⟩,?_⟩,?_⟩,?_⟩,?_⟩,?_⟩,?_⟩,?_⟩,?_⟩,?_⟩,?_⟩,?_⟩,?_⟩,?_⟩,?_⟩,?_⟩,?_⟩,?_⟩,?_⟩,?_⟩,?_⟩,?_⟩,?_⟩
      all_goals first|exact .inl (by decide)|skip
      ·exact .inr (Owes.k0 71 [(6,.pointer (some ⟨bj,0,none⟩))])
      ·exact .inr (Owes.c1 71 19 0 D0)
      ·refine .inr (Owes.mk _ rfl rfl (fun _ _ h=>by cases h) fun u m w' hm hI hR=>⟨⟨(frm 71 [(20,u 1)]).toArray,[]⟩,rfl,fun d hd=>by cases hd;exact frm_lt (by decide),?_⟩);dsimp only [frm,List.foldl,List.replicate,List.set];have e1:u 1=_:=hR 1 (by decide);rw [e1];clear e1;have HI:=Lib.hid hI;clear hI hst;go_wp2_with fail
       refine (l1In_v HWho.out _).mono ?_;rintro e w5 ⟨rfl,rfl⟩;go_wp2;exact ⟨rfl,_,rfl,rfl,HI.out,fun _ _ h=>h⟩
      ·exact .inr (Owes.k1 71 21 2)
      ·exact .inr (Owes.k1 71 22 3)
      ·exact .inr (Owes.k0G 71 [(6,.pointer (some ⟨bj,0,none⟩))])
      ·exact .inr (Owes.c1G 71 24 5 D1)
      ·exact .inr (Owes.k0G 71 [(3,.pointer (some ⟨w.heap.size+1,0,none⟩))])
      ·exact .inr (Owes.c1G 71 26 7 S2)
      ·exact .inr (Owes.k0G 71 [(6,.pointer (some ⟨bj,0,none⟩))])
      ·exact .inr (Owes.c1G 71 28 9 D0)
      ·exact .inr (Owes.k2G 71 27 8 29 10)
      ·exact .inr (Owes.c1G 71 30 11 A0)
      ·refine .inr (Owes.mkG _ _ rfl rfl (fun _ _ h=>by cases h) fun u m w' hm hI hR=>⟨⟨(frm 71 [(31,u 12)]).toArray,[]⟩,rfl,fun d hd=>by cases hd;exact frm_lt (by decide),?_⟩);dsimp only [frm,List.foldl,List.replicate,List.set];have e12:u 12=_:=hR 12 (by decide);rw [e12];clear e12;have HI:=Lib.hid hI;clear hI hst hR;go_wp2;exact ⟨rfl,_,rfl,(by show _=_;go_num),HI.out,fun _ _ h=>h⟩
      ·refine .inr (Owes.mkG _ _ rfl rfl (fun _ _ h=>by cases h) fun u m w' hm hI hR=>⟨⟨(frm 71 [(25,u 6),(32,u 13)]).toArray,[]⟩,rfl,fun d hd=>by cases hd;exact frm_lt (by decide),?_⟩);dsimp only [frm,List.foldl,List.replicate,List.set];have e6:u 6=_:=hR 6 (by decide);have e13:u 13=_:=hR 13 (by decide);rw [e6,e13];clear e6 e13;have HI:=Lib.hid hI;clear hI hst;go_wp2_with fail
       refine (l1In_v HN.out _).mono ?_;rintro e w5 ⟨rfl,rfl⟩;go_wp2;exact ⟨rfl,_,rfl,rfl,HI.out,fun _ _ h=>h⟩
      ·exact .inr (Owes.k1G 71 33 14)
      ·exact .inr (Owes.k2 71 23 4 34 15)
      ·exact .inr (Owes.k1 71 35 16)
      ·exact .inr (Owes.k2 71 36 17 40 21)
      ·exact .inr (Owes.k1 71 41 22)
      ·exact .inr (Owes.k2 71 42 23 57 38)
      ·exact .inr (Owes.k1 71 58 39)
     case hend =>
      intro u w' hI hR;simp only [setAll,List.set_cons_zero,List.set_cons_succ];have e40:u 40=_:=hR 40 (by decide);rw [e40];clear e40;have HB5:=Lib.hid (B4.out.trans (hI.mono B4.out.size));clear hR hst hI D0 D1 D2 D3 D4 S2 A0;go_wp2;go_ret;exact ⟨ret_bool (told_no1 hL HNo.out).symm,HB5.out⟩
    ·have hn2:=inB_true.1 hbn;obtain ⟨ii,rfl⟩:=Int.eq_ofNat_of_zero_le hn2.1;have hil:ii<c.progs[uu].length:=by omega
     have X2:=keep_cell b14 HX.out;have G2k:=Lib.hid (SlR.below (slR_fits reqR_fits) G2.out b14);obtain ⟨_,_,_,ep,-,-,-,-,rp⟩:=G2k.out.opened;cases ep;obtain ⟨_,pb,po,fq,cs,rfl,-,-,-,⟨y,rfl,hy⟩,ep⟩:=rp uu (by rw [<- hpn.out];exact hu4);have Y0:=ep 0 (by simp);simp only [Nat.mul_one,Nat.add_zero,List.getElem_cons_zero] at Y0;obtain ⟨a3,rn,rc,rfl,hrn,-,-,-,rr⟩:=hy.opened;obtain ⟨_,rb,ro,_,cs,rfl,-,-,-,⟨_,_,_,_,rfl,_,_,_⟩,er⟩:=rr ii (by rw [<- hrn.out];exact hil);have Z0:=er 0 (by simp);simp only [Nat.add_zero,List.getElem_cons_zero] at Z0;have HId:Hid (idAt c uu ii=c.progs[uu][ii].id):=Lib.hid (idAt_at hu4 hil);obtain ⟨rid,hrid⟩:∃ z,c.progs[uu][ii].id=z:=⟨_,rfl⟩;rw [hrid] at Z0 HId;have hup:(uu:Int)<(pn:Int):=by have:=hpn.out;omega
     have hir:(ii:Int)<(rn:Int):=by have:=hrn.out;omega
     have HFit:Hid (∀ (x:Rsp),jobGood c asked true ⟨uu,ii,x⟩=(true && jobCame c true ⟨uu,ii,x⟩)):=Lib.hid (fun x=>by unfold jobGood;rw [HU.out,HN.out]);obtain ⟨ft,gt,-⟩:=(SlR.below jobR_fits G.out b14).take k (by omega);have GT4:=Lib.hid gt;obtain ⟨b0,h0⟩:∃ z,rspOk ⟨ji,jc,jd⟩=z:=⟨_,rfl⟩;obtain ⟨b1,h1⟩:∃ z,(ji == rid)=z:=⟨_,rfl⟩;have HRk:=Lib.hid h0;have t1:(ji != rid) = !b1:=by rw [<- h1];rfl
     have HCm:Hid (jobCame c true ⟨uu,ii,⟨ji,jc,jd⟩⟩=(b0 && b1)):=Lib.hid (by unfold jobCame;rw [HId.out,<- h0,<- h1];rfl);clear rp ep hy rr er hrid hbn hn2 G2k Gak b14 hb1 gt h0 h1;cases b0
     ·have HNo:Hid (jobGood c asked true l[k]=false):=Lib.hid (by rw [HJ.out,HFit.out,HCm.out];rfl);have hst:∀ F,F∈[FEq (.pointer (some ⟨bj,0,none⟩)),FEq (.int .i64 (uu:Int)),FEq (.bool true),FEq (.bool false),FEq (.bool false),FEq (.pointer (some ⟨bj,1,none⟩)),FEq (.int .i64 (ii:Int)),FEq (.pointer (some ⟨w.heap.size+1,2,none⟩)),FEq (.slice (some ⟨ab,ao,none⟩) an ac),FEq (.pointer (some ⟨bj,0,none⟩)),FEq (.int .i64 (uu:Int)),FEq (.pointer (some ⟨ab,ao+uu,none⟩)),FEq (.int .i64 au),FEq (.int .i64 (au - 1)),FEq (.bool true),FEq (.bool false),FEq (.bool false),FEq (.bool false),FEq (.pointer (some ⟨bj,2,none⟩)),FEq (.agg #[.int .i64 ji,.int .i64 jc,.slice dva dvn dvc]),FEq (.bool false),FEq (.bool true),FEq (.bool true),FEq (.bool true),FEq undef,FEq undef,FEq undef,FEq undef,FEq undef,FEq undef,FEq undef,FEq undef,FEq undef,FEq undef,FEq undef,FEq undef,FEq undef,FEq undef,FEq undef,FEq (.bool true),FEq (.bool true),FEq undef,FEq undef,FEq undef,FEq undef,FEq undef,FEq undef,FEq undef,FEq undef,FEq undef,FEq undef]->Stable [] F:=by repeat first|exact st_nil|refine st_eq ?_
      refine wp_skipH hst tbl5Told5 (fun _ w'=>Below w4.heap.size w4 w') 71 52 51 [some 19,some 20,some 21,some 22,some 23,some 24,some 25,some 26,some 27,some 28,some 29,some 30,some 31,some 32,some 33,some 34,some 35,some 36,some 37,some 38,some 39,some 40,some 41,some 42,some 43,some 44,some 45,some 46,some 47,some 48,some 49,some 50,some 51,some 52,some 53,some 54,some 55,some 56,some 57,some 58,some 59,some 60,some 61,some 62,some 63,some 64,some 65,some 66,some 67,some 68,some 69] _ [24,25,26,27,28,29,30,31,32,33,34,35,36,37,38,41,42,43,44,45,46,47,48,49,50] [(17,false),(23,true),(4,false),(40,true)] ?h0 ?hop ?hend
      case h0=>exact (Below.refl _ _).drew
      case hop =>
       refine ⟨⟨⟨⟨⟨⟨⟨⟨⟨⟨⟨⟨⟨⟨⟨⟨⟨⟨⟨⟨⟨⟨⟨⟨⟨⟨⟨⟨⟨⟨⟨⟨⟨⟨⟨⟨⟨⟨⟨⟨⟨⟨⟨⟨⟨⟨⟨⟨⟨⟨⟨trivial,?_⟩,?_⟩,?_⟩,?_⟩,?_⟩,?_⟩,?_⟩,?_⟩,?_⟩,?_⟩,?_⟩,?_⟩,?_⟩,?_⟩,?_⟩,?_⟩,?_⟩,?_⟩,?_⟩,?_⟩,?_⟩,?_⟩,?_⟩,?_⟩,?_⟩,?_⟩,?_⟩,?_⟩,?_⟩,?_⟩,?_⟩,?_⟩,?_⟩,?_⟩,?_⟩,?_⟩,?_⟩,?_⟩,?_⟩,?_⟩,?_⟩,?_⟩,?_⟩,?_⟩,?_⟩,?_⟩,?_⟩,?_⟩,?_⟩,?_⟩,?_⟩
       all_goals first|exact .inl (by decide)|skip
       ·exact .inr (Owes.k0 71 [(6,.pointer (some ⟨bj,0,none⟩))])
       ·exact .inr (Owes.c1 71 19 0 D0)
       ·refine .inr (Owes.mk _ rfl rfl (fun _ _ h=>by cases h) fun u m w' hm hI hR=>⟨⟨(frm 71 [(20,u 1)]).toArray,[]⟩,rfl,fun d hd=>by cases hd;exact frm_lt (by decide),?_⟩);dsimp only [frm,List.foldl,List.replicate,List.set];have e1:u 1=_:=hR 1 (by decide);rw [e1];clear e1;have HI:=Lib.hid hI;clear hI hst;go_wp2_with fail
        refine (l1In_v HWho.out _).mono ?_;rintro e w5 ⟨rfl,rfl⟩;go_wp2;exact ⟨rfl,_,rfl,rfl,HI.out,fun _ _ h=>h⟩
       ·exact .inr (Owes.k1 71 21 2)
       ·exact .inr (Owes.k1 71 22 3)
       ·exact .inr (Owes.k0G 71 [(6,.pointer (some ⟨bj,0,none⟩))])
       ·exact .inr (Owes.c1G 71 24 5 D1)
       ·exact .inr (Owes.k0G 71 [(3,.pointer (some ⟨w.heap.size+1,0,none⟩))])
       ·exact .inr (Owes.c1G 71 26 7 S2)
       ·exact .inr (Owes.k0G 71 [(6,.pointer (some ⟨bj,0,none⟩))])
       ·exact .inr (Owes.c1G 71 28 9 D0)
       ·exact .inr (Owes.k2G 71 27 8 29 10)
       ·exact .inr (Owes.c1G 71 30 11 A0)
       ·refine .inr (Owes.mkG _ _ rfl rfl (fun _ _ h=>by cases h) fun u m w' hm hI hR=>⟨⟨(frm 71 [(31,u 12)]).toArray,[]⟩,rfl,fun d hd=>by cases hd;exact frm_lt (by decide),?_⟩);dsimp only [frm,List.foldl,List.replicate,List.set];have e12:u 12=_:=hR 12 (by decide);rw [e12];clear e12;have HI:=Lib.hid hI;clear hI hst hR;go_wp2;exact ⟨rfl,_,rfl,(by show _=_;go_num),HI.out,fun _ _ h=>h⟩
       ·refine .inr (Owes.mkG _ _ rfl rfl (fun _ _ h=>by cases h) fun u m w' hm hI hR=>⟨⟨(frm 71 [(25,u 6),(32,u 13)]).toArray,[]⟩,rfl,fun d hd=>by cases hd;exact frm_lt (by decide),?_⟩);dsimp only [frm,List.foldl,List.replicate,List.set];have e6:u 6=_:=hR 6 (by decide);have e13:u 13=_:=hR 13 (by decide);rw [e6,e13];clear e6 e13;have HI:=Lib.hid hI;clear hI hst;go_wp2_with fail
        refine (l1In_v HN.out _).mono ?_;rintro e w5 ⟨rfl,rfl⟩;go_wp2;exact ⟨rfl,_,rfl,rfl,HI.out,fun _ _ h=>h⟩
       ·exact .inr (Owes.k1G 71 33 14)
       ·exact .inr (Owes.k2 71 23 4 34 15)
       ·exact .inr (Owes.k1 71 35 16)
       ·exact .inr (Owes.k0G 71 [(6,.pointer (some ⟨bj,0,none⟩))])
       ·refine .inr (Owes.qG 71 (fun u=>[(37,u 18)]) fun u w' hI hR=>?_);dsimp only [frm,List.foldl,List.replicate,List.set];obtain ⟨_,hI⟩:=hI;have k2:=keep_cell hI D2;have k3:=keep_cell hI D3;have k4:=keep_cell hI D4;have e18:u 18=_:=hR 18 (by decide);rw [e18];clear hI hst hR;go_wp2;exact ⟨rfl,_,rfl,rfl,rfl⟩
       ·refine .inr (Owes.mkG _ _ rfl rfl (fun _ _ h=>by cases h) fun u m w' hm hI hR=>⟨⟨(frm 71 [(38,u 19)]).toArray,[]⟩,rfl,fun d hd=>by cases hd;exact frm_lt (by decide),?_⟩);dsimp only [frm,List.foldl,List.replicate,List.set];have e19:u 19=_:=hR 19 (by decide);rw [e19];clear e19;have GD6:=Lib.hid (SlR.below intR_fits GD4.out hI);have HI:=Lib.hid hI;clear hI hR;go_wp2_with fail
        refine (sRspOk_any ⟨ji,jc,jd⟩ _ df _ GD6.out).mono ?_;rw [HRk.out];rintro e w5 ⟨rfl,b5⟩;have HS5:=Lib.hid (facts_stable hst (b5.chg []));have HI5:=Lib.hid (HI.out.trans (b5.mono HI.out.size));clear b5 hst;go_wp2;exact ⟨rfl,_,rfl,rfl,HI5.out,HS5.out⟩
       ·exact .inr (Owes.k1G 71 39 20)
       ·exact .inr (Owes.k2 71 36 17 40 21)
       ·exact .inr (Owes.k1 71 41 22)
       ·exact .inr (Owes.k2 71 42 23 57 38)
       ·exact .inr (Owes.k1 71 58 39)
      case hend =>
       intro u w' hI hR;simp only [setAll,List.set_cons_zero,List.set_cons_succ];have e40:u 40=_:=hR 40 (by decide);rw [e40];clear e40;have HB5:=Lib.hid (B4.out.trans (hI.mono B4.out.size));clear hR hst hI D0 D1 D2 D3 D4 S2 A0 X2 Y0 Z0 S5;go_wp2;go_ret;exact ⟨ret_bool (told_no1 hL HNo.out).symm,HB5.out⟩
     ·cases b1
      ·have HNo:Hid (jobGood c asked true l[k]=false):=Lib.hid (by rw [HJ.out,HFit.out,HCm.out];rfl);have hst:∀ F,F∈[FEq (.pointer (some ⟨bj,0,none⟩)),FEq (.int .i64 (uu:Int)),FEq (.bool true),FEq (.bool false),FEq (.bool false),FEq (.pointer (some ⟨bj,1,none⟩)),FEq (.int .i64 (ii:Int)),FEq (.pointer (some ⟨w.heap.size+1,2,none⟩)),FEq (.slice (some ⟨ab,ao,none⟩) an ac),FEq (.pointer (some ⟨bj,0,none⟩)),FEq (.int .i64 (uu:Int)),FEq (.pointer (some ⟨ab,ao+uu,none⟩)),FEq (.int .i64 au),FEq (.int .i64 (au - 1)),FEq (.bool true),FEq (.bool false),FEq (.bool false),FEq (.bool false),FEq (.pointer (some ⟨bj,2,none⟩)),FEq (.agg #[.int .i64 ji,.int .i64 jc,.slice dva dvn dvc]),FEq (.bool true),FEq (.bool false),FEq (.bool false),FEq (.bool false),FEq (.pointer (some ⟨bj,2,none⟩)),FEq (.pointer (some ⟨bj,2,none⟩)),FEq (.int .i64 ji),FEq (.pointer (some ⟨w.heap.size,2,none⟩)),FEq (.slice (some ⟨pb,po,none⟩) pn pc),FEq (.pointer (some ⟨bj,0,none⟩)),FEq (.int .i64 (uu:Int)),FEq (.pointer (some ⟨pb,po+uu,none⟩)),FEq (.slice (some ⟨rb,ro,none⟩) rn rc),FEq (.pointer (some ⟨bj,1,none⟩)),FEq (.int .i64 (ii:Int)),FEq (.pointer (some ⟨rb,ro+ii*7,none⟩)),FEq (.pointer (some ⟨rb,ro+ii*7,none⟩)),FEq (.int .i64 rid),FEq (.bool true),FEq (.bool true),FEq (.bool true),FEq undef,FEq undef,FEq undef,FEq undef,FEq undef,FEq undef,FEq undef,FEq undef,FEq undef,FEq undef]->Stable [] F:=by repeat first|exact st_nil|refine st_eq ?_
       refine wp_skipH hst tbl5Told5 (fun _ w'=>Below w4.heap.size w4 w') 71 52 51 [some 19,some 20,some 21,some 22,some 23,some 24,some 25,some 26,some 27,some 28,some 29,some 30,some 31,some 32,some 33,some 34,some 35,some 36,some 37,some 38,some 39,some 40,some 41,some 42,some 43,some 44,some 45,some 46,some 47,some 48,some 49,some 50,some 51,some 52,some 53,some 54,some 55,some 56,some 57,some 58,some 59,some 60,some 61,some 62,some 63,some 64,some 65,some 66,some 67,some 68,some 69] _ [41,42,43,44,45,46,47,48,49,50] [(17,false),(23,false),(4,false),(40,true)] ?h0 ?hop ?hend
       case h0=>exact (Below.refl _ _).drew
       case hop =>
        refine ⟨⟨⟨⟨⟨⟨⟨⟨⟨⟨⟨⟨⟨⟨⟨⟨⟨⟨⟨⟨⟨⟨⟨⟨⟨⟨⟨⟨⟨⟨⟨⟨⟨⟨⟨⟨⟨⟨⟨⟨⟨⟨⟨⟨⟨⟨⟨⟨⟨⟨⟨trivial,?_⟩,?_⟩,?_⟩,?_⟩,?_⟩,?_⟩,?_⟩,?_⟩,?_⟩,?_⟩,?_⟩,?_⟩,?_⟩,?_⟩,?_⟩,?_⟩,?_⟩,?_⟩,?_⟩,?_⟩,?_⟩,?_⟩,?_⟩,?_⟩,?_⟩,?_⟩,?_⟩,?_⟩,?_⟩,?_⟩,?_⟩,?_⟩,?_⟩,?_⟩,?_⟩,?_⟩,?_⟩,?_⟩,?_⟩,?_⟩,?_⟩,?_⟩,?_⟩,?_⟩,?_⟩,?_⟩,?_⟩,?_⟩,?_⟩,?_⟩,?_⟩
        all_goals first|exact .inl (by decide)|skip
        ·exact .inr (Owes.k0 71 [(6,.pointer (some ⟨bj,0,none⟩))])
        ·exact .inr (Owes.c1 71 19 0 D0)
        ·refine .inr (Owes.mk _ rfl rfl (fun _ _ h=>by cases h) fun u m w' hm hI hR=>⟨⟨(frm 71 [(20,u 1)]).toArray,[]⟩,rfl,fun d hd=>by cases hd;exact frm_lt (by decide),?_⟩);dsimp only [frm,List.foldl,List.replicate,List.set];have e1:u 1=_:=hR 1 (by decide);rw [e1];clear e1;have HI:=Lib.hid hI;clear hI hst;go_wp2_with fail
         refine (l1In_v HWho.out _).mono ?_;rintro e w5 ⟨rfl,rfl⟩;go_wp2;exact ⟨rfl,_,rfl,rfl,HI.out,fun _ _ h=>h⟩
        ·exact .inr (Owes.k1 71 21 2)
        ·exact .inr (Owes.k1 71 22 3)
        ·exact .inr (Owes.k0G 71 [(6,.pointer (some ⟨bj,0,none⟩))])
        ·exact .inr (Owes.c1G 71 24 5 D1)
        ·exact .inr (Owes.k0G 71 [(3,.pointer (some ⟨w.heap.size+1,0,none⟩))])
        ·exact .inr (Owes.c1G 71 26 7 S2)
        ·exact .inr (Owes.k0G 71 [(6,.pointer (some ⟨bj,0,none⟩))])
        ·exact .inr (Owes.c1G 71 28 9 D0)
        ·exact .inr (Owes.k2G 71 27 8 29 10)
        ·exact .inr (Owes.c1G 71 30 11 A0)
        ·refine .inr (Owes.mkG _ _ rfl rfl (fun _ _ h=>by cases h) fun u m w' hm hI hR=>⟨⟨(frm 71 [(31,u 12)]).toArray,[]⟩,rfl,fun d hd=>by cases hd;exact frm_lt (by decide),?_⟩);dsimp only [frm,List.foldl,List.replicate,List.set];have e12:u 12=_:=hR 12 (by decide);rw [e12];clear e12;have HI:=Lib.hid hI;clear hI hst hR;go_wp2;exact ⟨rfl,_,rfl,(by show _=_;go_num),HI.out,fun _ _ h=>h⟩
        ·refine .inr (Owes.mkG _ _ rfl rfl (fun _ _ h=>by cases h) fun u m w' hm hI hR=>⟨⟨(frm 71 [(25,u 6),(32,u 13)]).toArray,[]⟩,rfl,fun d hd=>by cases hd;exact frm_lt (by decide),?_⟩);dsimp only [frm,List.foldl,List.replicate,List.set];have e6:u 6=_:=hR 6 (by decide);have e13:u 13=_:=hR 13 (by decide);rw [e6,e13];clear e6 e13;have HI:=Lib.hid hI;clear hI hst;go_wp2_with fail
         refine (l1In_v HN.out _).mono ?_;rintro e w5 ⟨rfl,rfl⟩;go_wp2;exact ⟨rfl,_,rfl,rfl,HI.out,fun _ _ h=>h⟩
        ·exact .inr (Owes.k1G 71 33 14)
        ·exact .inr (Owes.k2 71 23 4 34 15)
        ·exact .inr (Owes.k1 71 35 16)
        ·exact .inr (Owes.k0G 71 [(6,.pointer (some ⟨bj,0,none⟩))])
        ·refine .inr (Owes.qG 71 (fun u=>[(37,u 18)]) fun u w' hI hR=>?_);dsimp only [frm,List.foldl,List.replicate,List.set];obtain ⟨_,hI⟩:=hI;have k2:=keep_cell hI D2;have k3:=keep_cell hI D3;have k4:=keep_cell hI D4;have e18:u 18=_:=hR 18 (by decide);rw [e18];clear hI hst hR;go_wp2;exact ⟨rfl,_,rfl,rfl,rfl⟩
        ·refine .inr (Owes.mkG _ _ rfl rfl (fun _ _ h=>by cases h) fun u m w' hm hI hR=>⟨⟨(frm 71 [(38,u 19)]).toArray,[]⟩,rfl,fun d hd=>by cases hd;exact frm_lt (by decide),?_⟩);dsimp only [frm,List.foldl,List.replicate,List.set];have e19:u 19=_:=hR 19 (by decide);rw [e19];clear e19;have GD6:=Lib.hid (SlR.below intR_fits GD4.out hI);have HI:=Lib.hid hI;clear hI hR;go_wp2_with fail
         refine (sRspOk_any ⟨ji,jc,jd⟩ _ df _ GD6.out).mono ?_;rw [HRk.out];rintro e w5 ⟨rfl,b5⟩;have HS5:=Lib.hid (facts_stable hst (b5.chg []));have HI5:=Lib.hid (HI.out.trans (b5.mono HI.out.size));clear b5 hst;go_wp2;exact ⟨rfl,_,rfl,rfl,HI5.out,HS5.out⟩
        ·exact .inr (Owes.k1G 71 39 20)
        ·exact .inr (Owes.k2 71 36 17 40 21)
        ·exact .inr (Owes.k1 71 41 22)
        ·exact .inr (Owes.k0G 71 [(6,.pointer (some ⟨bj,0,none⟩))])
        ·exact .inr (Owes.k1G 71 43 24)
        ·exact .inr (Owes.c1G 71 44 25 D2)
        ·exact .inr (Owes.k0G 71 [(2,.pointer (some ⟨w.heap.size,0,none⟩))])
        ·exact .inr (Owes.c1G 71 46 27 X2)
        ·exact .inr (Owes.k0G 71 [(6,.pointer (some ⟨bj,0,none⟩))])
        ·exact .inr (Owes.c1G 71 48 29 D0)
        ·exact .inr (Owes.k2G 71 47 28 49 30)
        ·exact .inr (Owes.c1G 71 50 31 Y0)
        ·exact .inr (Owes.k0G 71 [(6,.pointer (some ⟨bj,0,none⟩))])
        ·exact .inr (Owes.c1G 71 52 33 D1)
        ·exact .inr (Owes.k2G 71 51 32 53 34)
        ·exact .inr (Owes.k1G 71 54 35)
        ·exact .inr (Owes.c1G 71 55 36 Z0)
        ·exact .inr (Owes.k2G 71 45 26 56 37)
        ·exact .inr (Owes.k2 71 42 23 57 38)
        ·exact .inr (Owes.k1 71 58 39)
       case hend =>
        intro u w' hI hR;simp only [setAll,List.set_cons_zero,List.set_cons_succ];have e40:u 40=_:=hR 40 (by decide);rw [e40];clear e40;have HB5:=Lib.hid (B4.out.trans (hI.mono B4.out.size));clear hR hst hI D0 D1 D2 D3 D4 S2 A0 X2 Y0 Z0 S5;go_wp2;go_ret;exact ⟨ret_bool (told_no1 hL HNo.out).symm,HB5.out⟩
      ·have HGood:Hid (jobGood c asked true l[k]=true):=Lib.hid (by rw [HJ.out,HFit.out,HCm.out];rfl);obtain ⟨z,hz⟩:∃ z,jobAt (l.take k) uu ii=z:=⟨_,rfl⟩;obtain ⟨bz,hbz⟩:∃ y,decide (0<=z)=y:=⟨_,rfl⟩;have HNew:Hid ((l.take k).any (isJob uu ii)=bz):=Lib.hid (by rw [<- hbz,<- hz];exact (idxOf_any _ _).symm);have HZ:=Lib.hid hz;clear hz;cases bz
       ·skip
        have hst:∀ F,F∈[FEq (.pointer (some ⟨bj,0,none⟩)),FEq (.int .i64 (uu:Int)),FEq (.bool true),FEq (.bool false),FEq (.bool false),FEq (.pointer (some ⟨bj,1,none⟩)),FEq (.int .i64 (ii:Int)),FEq (.pointer (some ⟨w.heap.size+1,2,none⟩)),FEq (.slice (some ⟨ab,ao,none⟩) an ac),FEq (.pointer (some ⟨bj,0,none⟩)),FEq (.int .i64 (uu:Int)),FEq (.pointer (some ⟨ab,ao+uu,none⟩)),FEq (.int .i64 au),FEq (.int .i64 (au - 1)),FEq (.bool true),FEq (.bool false),FEq (.bool false),FEq (.bool false),FEq (.pointer (some ⟨bj,2,none⟩)),FEq (.agg #[.int .i64 ji,.int .i64 jc,.slice dva dvn dvc]),FEq (.bool true),FEq (.bool false),FEq (.bool false),FEq (.bool false),FEq (.pointer (some ⟨bj,2,none⟩)),FEq (.pointer (some ⟨bj,2,none⟩)),FEq (.int .i64 ji),FEq (.pointer (some ⟨w.heap.size,2,none⟩)),FEq (.slice (some ⟨pb,po,none⟩) pn pc),FEq (.pointer (some ⟨bj,0,none⟩)),FEq (.int .i64 (uu:Int)),FEq (.pointer (some ⟨pb,po+uu,none⟩)),FEq (.slice (some ⟨rb,ro,none⟩) rn rc),FEq (.pointer (some ⟨bj,1,none⟩)),FEq (.int .i64 (ii:Int)),FEq (.pointer (some ⟨rb,ro+ii*7,none⟩)),FEq (.pointer (some ⟨rb,ro+ii*7,none⟩)),FEq (.int .i64 rid),FEq (.bool false),FEq (.bool false),FEq (.bool false),FEq (.pointer (some ⟨w.heap.size+1,5,none⟩)),FEq (.slice (some ⟨lb,lo,none⟩) n cap),FEq (.int .i64 (k:Int)),FEq (.slice (some ⟨lb,lo,none⟩) k cap),FEq (.pointer (some ⟨bj,0,none⟩)),FEq (.int .i64 (uu:Int)),FEq (.pointer (some ⟨bj,1,none⟩)),FEq (.int .i64 (ii:Int)),FEq (.int .i64 z)]->Stable [] F:=by repeat first|exact st_nil|refine st_eq ?_
        refine wp_tailH hst tbl5Told5 (fun _ w'=>Below w4.heap.size w4 w') 71 52 50 [some 19,some 20,some 21,some 22,some 23,some 24,some 25,some 26,some 27,some 28,some 29,some 30,some 31,some 32,some 33,some 34,some 35,some 36,some 37,some 38,some 39,some 40,some 41,some 42,some 43,some 44,some 45,some 46,some 47,some 48,some 49,some 50,some 51,some 52,some 53,some 54,some 55,some 56,some 57,some 58,some 59,some 60,some 61,some 62,some 63,some 64,some 65,some 66,some 67,some 68] _ [(17,false),(23,false),(4,false),(40,false)] ?h0 ?hop ?hend
        case h0=>exact (Below.refl _ _).drew
        case hop =>
         refine ⟨⟨⟨⟨⟨⟨⟨⟨⟨⟨⟨⟨⟨⟨⟨⟨⟨⟨⟨⟨⟨⟨⟨⟨⟨⟨⟨⟨⟨⟨⟨⟨⟨⟨⟨⟨⟨⟨⟨⟨⟨⟨⟨⟨⟨⟨⟨⟨⟨⟨trivial,?_⟩,?_⟩,?_⟩,?_⟩,?_⟩,?_⟩,?_⟩,?_⟩,?_⟩,?_⟩,?_⟩,?_⟩,?_⟩,?_⟩,?_⟩,?_⟩,?_⟩,?_⟩,?_⟩,?_⟩,?_⟩,?_⟩,?_⟩,?_⟩,?_⟩,?_⟩,?_⟩,?_⟩,?_⟩,?_⟩,?_⟩,?_⟩,?_⟩,?_⟩,?_⟩,?_⟩,?_⟩,?_⟩,?_⟩,?_⟩,?_⟩,?_⟩,?_⟩,?_⟩,?_⟩,?_⟩,?_⟩,?_⟩,?_⟩,?_⟩
         ·exact Owes.k0 71 [(6,.pointer (some ⟨bj,0,none⟩))]
         ·exact Owes.c1 71 19 0 D0
         ·refine Owes.mk _ rfl rfl (fun _ _ h=>by cases h) fun u m w' hm hI hR=>⟨⟨(frm 71 [(20,u 1)]).toArray,[]⟩,rfl,fun d hd=>by cases hd;exact frm_lt (by decide),?_⟩;dsimp only [frm,List.foldl,List.replicate,List.set];have e1:u 1=_:=hR 1 (by decide);rw [e1];clear e1;have HI:=Lib.hid hI;clear hI hst;go_wp2_with fail
          refine (l1In_v HWho.out _).mono ?_;rintro e w5 ⟨rfl,rfl⟩;go_wp2;exact ⟨rfl,_,rfl,rfl,HI.out,fun _ _ h=>h⟩
         ·exact Owes.k1 71 21 2
         ·exact Owes.k1 71 22 3
         ·exact Owes.k0G 71 [(6,.pointer (some ⟨bj,0,none⟩))]
         ·exact Owes.c1G 71 24 5 D1
         ·exact Owes.k0G 71 [(3,.pointer (some ⟨w.heap.size+1,0,none⟩))]
         ·exact Owes.c1G 71 26 7 S2
         ·exact Owes.k0G 71 [(6,.pointer (some ⟨bj,0,none⟩))]
         ·exact Owes.c1G 71 28 9 D0
         ·exact Owes.k2G 71 27 8 29 10
         ·exact Owes.c1G 71 30 11 A0
         ·refine Owes.mkG _ _ rfl rfl (fun _ _ h=>by cases h) fun u m w' hm hI hR=>⟨⟨(frm 71 [(31,u 12)]).toArray,[]⟩,rfl,fun d hd=>by cases hd;exact frm_lt (by decide),?_⟩;dsimp only [frm,List.foldl,List.replicate,List.set];have e12:u 12=_:=hR 12 (by decide);rw [e12];clear e12;have HI:=Lib.hid hI;clear hI hst hR;go_wp2;exact ⟨rfl,_,rfl,(by show _=_;go_num),HI.out,fun _ _ h=>h⟩
         ·refine Owes.mkG _ _ rfl rfl (fun _ _ h=>by cases h) fun u m w' hm hI hR=>⟨⟨(frm 71 [(25,u 6),(32,u 13)]).toArray,[]⟩,rfl,fun d hd=>by cases hd;exact frm_lt (by decide),?_⟩;dsimp only [frm,List.foldl,List.replicate,List.set];have e6:u 6=_:=hR 6 (by decide);have e13:u 13=_:=hR 13 (by decide);rw [e6,e13];clear e6 e13;have HI:=Lib.hid hI;clear hI hst;go_wp2_with fail
          refine (l1In_v HN.out _).mono ?_;rintro e w5 ⟨rfl,rfl⟩;go_wp2;exact ⟨rfl,_,rfl,rfl,HI.out,fun _ _ h=>h⟩
         ·exact Owes.k1G 71 33 14
         ·exact Owes.k2 71 23 4 34 15
         ·exact Owes.k1 71 35 16
         ·exact Owes.k0G 71 [(6,.pointer (some ⟨bj,0,none⟩))]
         ·refine Owes.qG 71 (fun u=>[(37,u 18)]) fun u w' hI hR=>?_;dsimp only [frm,List.foldl,List.replicate,List.set];obtain ⟨_,hI⟩:=hI;have k2:=keep_cell hI D2;have k3:=keep_cell hI D3;have k4:=keep_cell hI D4;have e18:u 18=_:=hR 18 (by decide);rw [e18];clear hI hst hR;go_wp2;exact ⟨rfl,_,rfl,rfl,rfl⟩
         ·refine Owes.mkG _ _ rfl rfl (fun _ _ h=>by cases h) fun u m w' hm hI hR=>⟨⟨(frm 71 [(38,u 19)]).toArray,[]⟩,rfl,fun d hd=>by cases hd;exact frm_lt (by decide),?_⟩;dsimp only [frm,List.foldl,List.replicate,List.set];have e19:u 19=_:=hR 19 (by decide);rw [e19];clear e19;have GD6:=Lib.hid (SlR.below intR_fits GD4.out hI);have HI:=Lib.hid hI;clear hI hR;go_wp2_with fail
          refine (sRspOk_any ⟨ji,jc,jd⟩ _ df _ GD6.out).mono ?_;rw [HRk.out];rintro e w5 ⟨rfl,b5⟩;have HS5:=Lib.hid (facts_stable hst (b5.chg []));have HI5:=Lib.hid (HI.out.trans (b5.mono HI.out.size));clear b5 hst;go_wp2;exact ⟨rfl,_,rfl,rfl,HI5.out,HS5.out⟩
         ·exact Owes.k1G 71 39 20
         ·exact Owes.k2 71 36 17 40 21
         ·exact Owes.k1 71 41 22
         ·exact Owes.k0G 71 [(6,.pointer (some ⟨bj,0,none⟩))]
         ·exact Owes.k1G 71 43 24
         ·exact Owes.c1G 71 44 25 D2
         ·exact Owes.k0G 71 [(2,.pointer (some ⟨w.heap.size,0,none⟩))]
         ·exact Owes.c1G 71 46 27 X2
         ·exact Owes.k0G 71 [(6,.pointer (some ⟨bj,0,none⟩))]
         ·exact Owes.c1G 71 48 29 D0
         ·exact Owes.k2G 71 47 28 49 30
         ·exact Owes.c1G 71 50 31 Y0
         ·exact Owes.k0G 71 [(6,.pointer (some ⟨bj,0,none⟩))]
         ·exact Owes.c1G 71 52 33 D1
         ·exact Owes.k2G 71 51 32 53 34
         ·exact Owes.k1G 71 54 35
         ·exact Owes.c1G 71 55 36 Z0
         ·exact Owes.k2G 71 45 26 56 37
         ·exact Owes.k2 71 42 23 57 38
         ·exact Owes.k1 71 58 39
         ·exact Owes.k0G 71 [(3,.pointer (some ⟨w.heap.size+1,0,none⟩))]
         ·exact Owes.c1G 71 60 41 S5
         ·exact Owes.k0G 71 [(5,.int .i64 (k:Int))]
         ·exact Owes.k2G 71 61 42 62 43
         ·exact Owes.k0G 71 [(6,.pointer (some ⟨bj,0,none⟩))]
         ·exact Owes.c1G 71 64 45 D0
         ·exact Owes.k0G 71 [(6,.pointer (some ⟨bj,0,none⟩))]
         ·exact Owes.c1G 71 66 47 D1
         ·refine Owes.mkG _ _ rfl rfl (fun _ _ h=>by cases h) fun u m w' hm hI hR=>⟨⟨(frm 71 [(63,u 44),(65,u 46),(67,u 48)]).toArray,[]⟩,rfl,fun d hd=>by cases hd;exact frm_lt (by decide),?_⟩;dsimp only [frm,List.foldl,List.replicate,List.set];have e44:u 44=_:=hR 44 (by decide);have e46:u 46=_:=hR 46 (by decide);have e48:u 48=_:=hR 48 (by decide);rw [e44,e46,e48];clear e44 e46 e48;have GT6:=Lib.hid (SlR.below jobR_fits GT4.out hI);have HI:=Lib.hid hI;clear hI hR;go_wp2_with fail
          refine (l5At_any _ _ ft uu ii _ GT6.out).mono ?_;rw [HZ.out];rintro e w5 ⟨rfl,rfl⟩;clear hst;go_wp2;exact ⟨rfl,_,rfl,rfl,HI.out,fun _ _ h=>h⟩
        case hend =>
         intro u w' hI hR;simp only [setAll,List.set_cons_zero,List.set_cons_succ];have e40:u 40=_:=hR 40 (by decide);have e49:u 49=_:=hR 49 (by decide);rw [e40,e49];clear e40 e49;have HB5:=Lib.hid (B4.out.trans (hI.mono B4.out.size));have HB15:=Lib.hid (B14.out.trans (hI.mono B14.out.size));clear hR hst hI D0 D1 D2 D3 D4 S2 A0 X2 Y0 Z0 S5;go_wp2
         go_roundw
         case rel=>exact ⟨k+1,by omega,by go_num,(fun j h hj=>by
          by_cases e:j=k
          ·subst e;exact HGood.out
          ·exact HG.out j h (by omega)),HR.out.step (by rw [HJ.out];exact HNew.out),HB5.out,HB15.out⟩
         case measure=>simp [intOf];omega
       ·skip
        have hst:∀ F,F∈[FEq (.pointer (some ⟨bj,0,none⟩)),FEq (.int .i64 (uu:Int)),FEq (.bool true),FEq (.bool false),FEq (.bool false),FEq (.pointer (some ⟨bj,1,none⟩)),FEq (.int .i64 (ii:Int)),FEq (.pointer (some ⟨w.heap.size+1,2,none⟩)),FEq (.slice (some ⟨ab,ao,none⟩) an ac),FEq (.pointer (some ⟨bj,0,none⟩)),FEq (.int .i64 (uu:Int)),FEq (.pointer (some ⟨ab,ao+uu,none⟩)),FEq (.int .i64 au),FEq (.int .i64 (au - 1)),FEq (.bool true),FEq (.bool false),FEq (.bool false),FEq (.bool false),FEq (.pointer (some ⟨bj,2,none⟩)),FEq (.agg #[.int .i64 ji,.int .i64 jc,.slice dva dvn dvc]),FEq (.bool true),FEq (.bool false),FEq (.bool false),FEq (.bool false),FEq (.pointer (some ⟨bj,2,none⟩)),FEq (.pointer (some ⟨bj,2,none⟩)),FEq (.int .i64 ji),FEq (.pointer (some ⟨w.heap.size,2,none⟩)),FEq (.slice (some ⟨pb,po,none⟩) pn pc),FEq (.pointer (some ⟨bj,0,none⟩)),FEq (.int .i64 (uu:Int)),FEq (.pointer (some ⟨pb,po+uu,none⟩)),FEq (.slice (some ⟨rb,ro,none⟩) rn rc),FEq (.pointer (some ⟨bj,1,none⟩)),FEq (.int .i64 (ii:Int)),FEq (.pointer (some ⟨rb,ro+ii*7,none⟩)),FEq (.pointer (some ⟨rb,ro+ii*7,none⟩)),FEq (.int .i64 rid),FEq (.bool false),FEq (.bool false),FEq (.bool false),FEq (.pointer (some ⟨w.heap.size+1,5,none⟩)),FEq (.slice (some ⟨lb,lo,none⟩) n cap),FEq (.int .i64 (k:Int)),FEq (.slice (some ⟨lb,lo,none⟩) k cap),FEq (.pointer (some ⟨bj,0,none⟩)),FEq (.int .i64 (uu:Int)),FEq (.pointer (some ⟨bj,1,none⟩)),FEq (.int .i64 (ii:Int)),FEq (.int .i64 z)]->Stable [] F:=by repeat first|exact st_nil|refine st_eq ?_
        refine wp_tailH hst tbl5Told5 (fun _ w'=>Below w4.heap.size w4 w') 71 52 50 [some 19,some 20,some 21,some 22,some 23,some 24,some 25,some 26,some 27,some 28,some 29,some 30,some 31,some 32,some 33,some 34,some 35,some 36,some 37,some 38,some 39,some 40,some 41,some 42,some 43,some 44,some 45,some 46,some 47,some 48,some 49,some 50,some 51,some 52,some 53,some 54,some 55,some 56,some 57,some 58,some 59,some 60,some 61,some 62,some 63,some 64,some 65,some 66,some 67,some 68] _ [(17,false),(23,false),(4,false),(40,false)] ?h0 ?hop ?hend
        case h0=>exact (Below.refl _ _).drew
        case hop =>
         refine ⟨⟨⟨⟨⟨⟨⟨⟨⟨⟨⟨⟨⟨⟨⟨⟨⟨⟨⟨⟨⟨⟨⟨⟨⟨⟨⟨⟨⟨⟨⟨⟨⟨⟨⟨⟨⟨⟨⟨⟨⟨⟨⟨⟨⟨⟨⟨⟨⟨⟨trivial,?_⟩,?_⟩,?_⟩,?_⟩,?_⟩,?_⟩,?_⟩,?_⟩,?_⟩,?_⟩,?_⟩,?_⟩,?_⟩,?_⟩,?_⟩,?_⟩,?_⟩,?_⟩,?_⟩,?_⟩,?_⟩,?_⟩,?_⟩,?_⟩,?_⟩,?_⟩,?_⟩,?_⟩,?_⟩,?_⟩,?_⟩,?_⟩,?_⟩,?_⟩,?_⟩,?_⟩,?_⟩,?_⟩,?_⟩,?_⟩,?_⟩,?_⟩,?_⟩,?_⟩,?_⟩,?_⟩,?_⟩,?_⟩,?_⟩,?_⟩
         ·exact Owes.k0 71 [(6,.pointer (some ⟨bj,0,none⟩))]
         ·exact Owes.c1 71 19 0 D0
         ·refine Owes.mk _ rfl rfl (fun _ _ h=>by cases h) fun u m w' hm hI hR=>⟨⟨(frm 71 [(20,u 1)]).toArray,[]⟩,rfl,fun d hd=>by cases hd;exact frm_lt (by decide),?_⟩;dsimp only [frm,List.foldl,List.replicate,List.set];have e1:u 1=_:=hR 1 (by decide);rw [e1];clear e1;have HI:=Lib.hid hI;clear hI hst;go_wp2_with fail
          refine (l1In_v HWho.out _).mono ?_;rintro e w5 ⟨rfl,rfl⟩;go_wp2;exact ⟨rfl,_,rfl,rfl,HI.out,fun _ _ h=>h⟩
         ·exact Owes.k1 71 21 2
         ·exact Owes.k1 71 22 3
         ·exact Owes.k0G 71 [(6,.pointer (some ⟨bj,0,none⟩))]
         ·exact Owes.c1G 71 24 5 D1
         ·exact Owes.k0G 71 [(3,.pointer (some ⟨w.heap.size+1,0,none⟩))]
         ·exact Owes.c1G 71 26 7 S2
         ·exact Owes.k0G 71 [(6,.pointer (some ⟨bj,0,none⟩))]
         ·exact Owes.c1G 71 28 9 D0
         ·exact Owes.k2G 71 27 8 29 10
         ·exact Owes.c1G 71 30 11 A0
         ·refine Owes.mkG _ _ rfl rfl (fun _ _ h=>by cases h) fun u m w' hm hI hR=>⟨⟨(frm 71 [(31,u 12)]).toArray,[]⟩,rfl,fun d hd=>by cases hd;exact frm_lt (by decide),?_⟩;dsimp only [frm,List.foldl,List.replicate,List.set];have e12:u 12=_:=hR 12 (by decide);rw [e12];clear e12;have HI:=Lib.hid hI;clear hI hst hR;go_wp2;exact ⟨rfl,_,rfl,(by show _=_;go_num),HI.out,fun _ _ h=>h⟩
         ·refine Owes.mkG _ _ rfl rfl (fun _ _ h=>by cases h) fun u m w' hm hI hR=>⟨⟨(frm 71 [(25,u 6),(32,u 13)]).toArray,[]⟩,rfl,fun d hd=>by cases hd;exact frm_lt (by decide),?_⟩;dsimp only [frm,List.foldl,List.replicate,List.set];have e6:u 6=_:=hR 6 (by decide);have e13:u 13=_:=hR 13 (by decide);rw [e6,e13];clear e6 e13;have HI:=Lib.hid hI;clear hI hst;go_wp2_with fail
          refine (l1In_v HN.out _).mono ?_;rintro e w5 ⟨rfl,rfl⟩;go_wp2;exact ⟨rfl,_,rfl,rfl,HI.out,fun _ _ h=>h⟩
         ·exact Owes.k1G 71 33 14
         ·exact Owes.k2 71 23 4 34 15
         ·exact Owes.k1 71 35 16
         ·exact Owes.k0G 71 [(6,.pointer (some ⟨bj,0,none⟩))]
         ·refine Owes.qG 71 (fun u=>[(37,u 18)]) fun u w' hI hR=>?_;dsimp only [frm,List.foldl,List.replicate,List.set];obtain ⟨_,hI⟩:=hI;have k2:=keep_cell hI D2;have k3:=keep_cell hI D3;have k4:=keep_cell hI D4;have e18:u 18=_:=hR 18 (by decide);rw [e18];clear hI hst hR;go_wp2;exact ⟨rfl,_,rfl,rfl,rfl⟩
         ·refine Owes.mkG _ _ rfl rfl (fun _ _ h=>by cases h) fun u m w' hm hI hR=>⟨⟨(frm 71 [(38,u 19)]).toArray,[]⟩,rfl,fun d hd=>by cases hd;exact frm_lt (by decide),?_⟩;dsimp only [frm,List.foldl,List.replicate,List.set];have e19:u 19=_:=hR 19 (by decide);rw [e19];clear e19;have GD6:=Lib.hid (SlR.below intR_fits GD4.out hI);have HI:=Lib.hid hI;clear hI hR;go_wp2_with fail
          refine (sRspOk_any ⟨ji,jc,jd⟩ _ df _ GD6.out).mono ?_;rw [HRk.out];rintro e w5 ⟨rfl,b5⟩;have HS5:=Lib.hid (facts_stable hst (b5.chg []));have HI5:=Lib.hid (HI.out.trans (b5.mono HI.out.size));clear b5 hst;go_wp2;exact ⟨rfl,_,rfl,rfl,HI5.out,HS5.out⟩
         ·exact Owes.k1G 71 39 20
         ·exact Owes.k2 71 36 17 40 21
         ·exact Owes.k1 71 41 22
         ·exact Owes.k0G 71 [(6,.pointer (some ⟨bj,0,none⟩))]
         ·exact Owes.k1G 71 43 24
         ·exact Owes.c1G 71 44 25 D2
         ·exact Owes.k0G 71 [(2,.pointer (some ⟨w.heap.size,0,none⟩))]
         ·exact Owes.c1G 71 46 27 X2
         ·exact Owes.k0G 71 [(6,.pointer (some ⟨bj,0,none⟩))]
         ·exact Owes.c1G 71 48 29 D0
         ·exact Owes.k2G 71 47 28 49 30
         ·exact Owes.c1G 71 50 31 Y0
         ·exact Owes.k0G 71 [(6,.pointer (some ⟨bj,0,none⟩))]
         ·exact Owes.c1G 71 52 33 D1
         ·exact Owes.k2G 71 51 32 53 34
         ·exact Owes.k1G 71 54 35
         ·exact Owes.c1G 71 55 36 Z0
         ·exact Owes.k2G 71 45 26 56 37
         ·exact Owes.k2 71 42 23 57 38
         ·exact Owes.k1 71 58 39
         ·exact Owes.k0G 71 [(3,.pointer (some ⟨w.heap.size+1,0,none⟩))]
         ·exact Owes.c1G 71 60 41 S5
         ·exact Owes.k0G 71 [(5,.int .i64 (k:Int))]
         ·exact Owes.k2G 71 61 42 62 43
         ·exact Owes.k0G 71 [(6,.pointer (some ⟨bj,0,none⟩))]
         ·exact Owes.c1G 71 64 45 D0
         ·exact Owes.k0G 71 [(6,.pointer (some ⟨bj,0,none⟩))]
         ·exact Owes.c1G 71 66 47 D1
         ·refine Owes.mkG _ _ rfl rfl (fun _ _ h=>by cases h) fun u m w' hm hI hR=>⟨⟨(frm 71 [(63,u 44),(65,u 46),(67,u 48)]).toArray,[]⟩,rfl,fun d hd=>by cases hd;exact frm_lt (by decide),?_⟩;dsimp only [frm,List.foldl,List.replicate,List.set];have e44:u 44=_:=hR 44 (by decide);have e46:u 46=_:=hR 46 (by decide);have e48:u 48=_:=hR 48 (by decide);rw [e44,e46,e48];clear e44 e46 e48;have GT6:=Lib.hid (SlR.below jobR_fits GT4.out hI);have HI:=Lib.hid hI;clear hI hR;go_wp2_with fail
          refine (l5At_any _ _ ft uu ii _ GT6.out).mono ?_;rw [HZ.out];rintro e w5 ⟨rfl,rfl⟩;clear hst;go_wp2;exact ⟨rfl,_,rfl,rfl,HI.out,fun _ _ h=>h⟩
        case hend =>
         intro u w' hI hR;simp only [setAll,List.set_cons_zero,List.set_cons_succ];have e40:u 40=_:=hR 40 (by decide);have e49:u 49=_:=hR 49 (by decide);rw [e40,e49];clear e40 e49;have HB5:=Lib.hid (B4.out.trans (hI.mono B4.out.size));clear hR hst hI D0 D1 D2 D3 D4 S2 A0 X2 Y0 Z0 S5;go_wp2;go_ret;exact ⟨ret_bool (told_no2 (fresh_no hL (by rw [HJ.out];exact HNew.out))).symm,HB5.out⟩
  ·go_wp2;go_ret;exact ⟨ret_bool (told_yes (fun j h=>HG.out j h (by rw [hn.out] at h;omega)) (fresh_yes HR.out (by rw [hn.out];omega))).symm,HB.out⟩
end Go.Proofs.Ytmcjklicepaiaaa
