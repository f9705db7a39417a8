/-
 Texts of this claim laid together: TOk3.
-/
import Derived.Test.YtmcjklicepaiaaaPk15
set_option linter.unusedVariables false
set_option linter.unusedSimpArgs false
namespace Go.Proofs.Ytmcjklicepaiaaa
def tbl5Jobs5:List (List Nat):=[[],[0],[0,1],[0,1,2],[0,1,2,3],[0,1,2,3,4],[0,1,2,3,4,5],[0,1,2,3,4],[0,1,2,3,4],[0,1,2,3,4,8],[0,1,2,3,4,7,8,9],[0,1,2,3,4,7,8,9,10],[0,1,2,3,4,7,8,9,10,11],[0,1,2,3,4,5,6,7,8,9,10,11,12],[0,1,2,3,4,5,6,7,8,9,10,11,12,13],[0,1,2,3,4,5,6,7,8,9,10,11,12,13,14],[0,1,2,3,4,5,6,7,8,9,10,11,12,13,14,15],[0,1,2,3,4,5,6,7,8,9,10,11,12,13,14,15,16],[0,1,2,3,4,5,6,7,8,9,10,11,12,13,14,15,16,17],[0,1,2,3,4,5,6,7,8,9,10,11,12,13,14,15,16,17,18],[0,1,2,3,4,5,6,7,8,9,10,11,12,13,14,15,16,17,18,19],[0,1,2,3,4,5,6,7,8,9,10,11,12,13,14,15,16,17,18,19],[0,1,2,3,4,5,6,7,8,9,10,11,12,13,14,15,16,17,18,19,21],[0,1,2,3,4,5,6,7,8,9,10,11,12,13,14,15,16,17,18,19,20,21,22],[0,1,2,3,4,5,6,7,8,9,10,11,12,13,14,15,16,17,18,19,20,21,22,23],[0,1,2,3,4,5,6,7,8,9,10,11,12,13,14,15,16,17,18,19],[0,1,2,3,4,5,6,7,8,9,10,11,12,13,14,15,16,17,18,19,20,21,22,23,24,25],[0,1,2,3,4,5,6,7,8,9,10,11,12,13,14,15,16,17,18,19,20,21,22,23,24,25,26],[0,1,2,3,4,5,6,7,8,9,10,11,12,13,14,15,16,17,18,19,20,21,22,23,24,25,26,27],[0,1,2,3,4,5,6,7,8,9,10,11,12,13,14,15,16,17,18,19,20,21,22,23,24,25,26,27,28]]
def tbl5Jobs7:List (List Nat):=[[],[0],[0,1],[0,1,2],[0,1,2,3],[0,1,2,3,4],[0,1,2,3,4,5],[0,1,2,3,4,5,6],[0,1,2,3,4,5,6,7],[0,1,2,3,4,5,6,7,8],[0,1,2,3,4,5,6],[0,1,2,3,4,5,6,10],[0,1,2,3,4,5,6],[0,1,2,3,4,5,6,12],[0,1,2,3,4,5,6,10,11,12,13],[0,1,2,3,4,5,6,10,11,12,13,14],[0,1,2,3,4,5,6],[0,1,2,3,4,5,6,16],[0,1,2,3,4,5,6,10,11,12,13,14,15,16,17],[0,1,2,3,4,5,6,10,11,12,13,14,15,16,17,18],[0,1,2,3,4,5,6,10,11,12,13,14,15,16,17,18,19],[0,1,2,3,4,5,6,7,8,9,10,11,12,13,14,15,16,17,18,19,20],[0,1,2,3,4,5,6,7,8,9,10,11,12,13,14,15,16,17,18,19,20,21],[0,1,2,3,4,5,6,7,8,9,10,11,12,13,14,15,16,17,18,19,20,21,22],[0,1,2,3,4,5,6,7,8,9,10,11,12,13,14,15,16,17,18,19,20,21,22,23],[0,1,2,3,4,5,6,7,8,9,10,11,12,13,14,15,16,17,18,19,20,21,22,23,24],[0,1,2,3,4,5,6,7,8,9,10,11,12,13,14,15,16,17,18,19,20,21,22,23,24,25],[0,1,2,3,4,5,6,7,8,9,10,11,12,13,14,15,16,17,18,19,20,21,22,23,24,25,26],[0,1,2,3,4,5,6,7,8,9,10,11,12,13,14,15,16,17,18,19,20,21,22,23,24,25,26,27],[0,1,2,3,4,5,6,7,8,9,10,11,12,13,14,15,16,17,18,19,20,21,22,23,24,25,26,27,28],[0,1,2,3,4,5,6,7,8,9,10,11,12,13,14,15,16,17,18,19,20,21,22,23,24,25,26,27,28,29],[0,1,2,3,4,5,6,7,8,9,10,11,12,13,14,15,16,17,18,19,20,21,22,23,24,25,26,27,28,29,30],[0,1,2,3,4,5,6,7,8,9,10,11,12,13,14,15,16,17,18,19,20,21,22,23,24,25,26,27,28,29,30,31],[0,1,2,3,4,5,6,7,8,9,10,11,12,13,14,15,16,17,18,19,20,21,22,23,24,25,26,27,28,29,30,31,32],[0,1,2,3,4,5,6,7,8,9,10,11,12,13,14,15,16,17,18,19,20,21,22,23,24,25,26,27,28,29,30,31,32,33],[0,1,2,3,4,5,6,7,8,9,10,11,12,13,14,15,16,17,18,19,20,21,22,23,24,25,26,27,28,29,30,31,32,33,34],[0,1,2,3,4,5,6,7,8,9,10,11,12,13,14,15,16,17,18,19,20,21,22,23,24,25,26,27,28,29,30,31,32,33,34,35],[0,1,2,3,4,5,6,7,8,9,10,11,12,13,14,15,16,17,18,19,20,21,22,23,24,25,26,27,28,29,30,31,32,33,34,35,36],[0,1,2,3,4,5,6,7,8,9,10,11,12,13,14,15,16,17,18,19,20,21,22,23,24,25,26,27,28,29,30,31,32,33,34,35,36,37],[0,1,2,3,4,5,6,7,8,9,10,11,12,13,14,15,16,17,18,19,20,21,22,23,24,25,26,27,28,29,30,31,32,33,34,35,36,37,38],[0,1,2,3,4,5,6,7,8,9,10,11,12,13,14,15,16,17,18,19,20,21,22,23,24,25,26,27,28,29,30,31,32,33,34,35,36,37,38,39],[0,1,2,3,4,5,6,7,8,9,10,11,12,13,14,15,16,17,18,19,20,21,22,23,24,25,26,27,28,29,30,31,32,33,34,35,36,37,38,39,40],[0,1,2,3,4,5,6,7,8,9,10,11,12,13,14,15,16,17,18,19,20,21,22,23,24,25,26,27,28,29,30,31,32,33,34,35,36,37,38,39,40,41],[0,1,2,3,4,5,6,7,8,9,10,11,12,13,14,15,16,17,18,19,20,21,22,23,24,25,26,27,28,29,30,31,32,33,34,35,36,37,38,39,40,41,42],[0,1,2,3,4,5,6,7,8,9,10,11,12,13,14,15,16,17,18,19,20,21,22,23,24,25,26,27,28,29,30,31,32,33,34,35,36,37,38,39,40,41,42,43],[0,1,2,3,4,5,6,7,8,9,10,11,12,13,14,15,16,17,18,19,20,21,22,23,24,25,26,27,28,29,30,31,32,33,34,35,36,37,38,39,40,41,42,43,44],[0,1,2,3,4,5,6,7,8,9,10,11,12,13,14,15,16,17,18,19,20,21,22,23,24,25,26,27,28,29,30,31,32,33,34,35,36,37,38,39,40,41,42,43,44,45]]
open Go.RowKit Go.ChangeShapes
def jobFit (asked:List Int) (j:Job):Bool:=inB j.who 0 2 && inB j.n 0 ((asked[j.who.toNat]?).getD 0 - 1)
def jobCame (c:Bus) (dn:Bool) (j:Job):Bool:=if dn then rspOk j.rsp && j.rsp.id == idAt c j.who j.n else rspNone j.rsp
def jobGood (c:Bus) (asked:List Int) (dn:Bool) (j:Job):Bool:=jobFit asked j && jobCame c dn j
noncomputable def jobsOk (c:Bus) (asked:List Int) (l:List Job) (dn:Bool):Bool:=l.all (jobGood c asked dn) && rise l
structure AskOk (c:Bus) (asked:List Int):Prop where
 la:asked.length=3
 lp:c.progs.length=3
 at':∀ k (h:k<asked.length) (h':k<c.progs.length),0<=asked[k]∧asked[k]<=c.progs[k].length∧c.progs[k].length<=12
theorem jobs_no1 {c:Bus} {asked:List Int} {l:List Job} {dn:Bool} {k:Nat} (hk:k<l.length) (h:jobGood c asked dn l[k]=false):jobsOk c asked l dn=false:=by
 unfold jobsOk;rw [show l.all (jobGood c asked dn)=false by rw [List.all_eq_false];exact ⟨l[k],List.getElem_mem hk,by simp [h]⟩];rfl
theorem jobs_no2 {c:Bus} {asked:List Int} {l:List Job} {dn:Bool} (h:rise l=false):jobsOk c asked l dn=false:=by
 unfold jobsOk;rw [h,Bool.and_false]
theorem jobs_yes {c:Bus} {asked:List Int} {l:List Job} {dn:Bool} (h:∀ k (hk:k<l.length),jobGood c asked dn l[k]=true) (hr:rise l=true):jobsOk c asked l dn=true:=by
 unfold jobsOk;rw [hr,Bool.and_true,List.all_eq_true];intro x hx;obtain ⟨k,hk,rfl⟩:=List.mem_iff_getElem.1 hx;exact h k hk
theorem fit_at {asked:List Int} {j:Job} {k:Nat} (hk:k<asked.length) (e:j.who=k):jobFit asked j=(inB (k:Int) 0 2 && inB j.n 0 (asked[k] - 1)):=by
 unfold jobFit;rw [e];simp [hk]
set_option maxRecDepth 100000 in
set_option maxHeartbeats 12800000 in
theorem l5Jobs_any (c:Bus) (asked:List Int) (l:List Job) (dn:Bool) (hc:AskOk c asked) (v0 v1 v2 va v:Value) (fp2 fa fp:List Nat) (w:World) (g2:SlR 1 (slR 7 reqR) w c.progs v2 fp2) (ga:SlR 1 intR w asked va fa) (g:SlR 5 jobR w l v fp) :
 Calls Try.prog 85 #[.agg #[v0,v1,v2],va,v,.bool dn] w fun e w'=>e = .returned (.bool (jobsOk c asked l dn))∧Below w.heap.size w w':=by
 obtain ⟨a,n,cap,rfl,hn,hcap,hmax,hcm,r⟩:=g.opened;obtain ⟨aa,an,ac,rfl,han,-,-,-,ra⟩:=ga.opened;obtain ⟨a2,pn,pc,rfl,hpn,-,-,-,rp⟩:=g2.opened;clear r ra rp;obtain ⟨w1,hw1⟩:∃ z,z=w.alloc (.cells #[v0,v1,.slice a2 pn pc] 38):=⟨_,rfl⟩;have b1:Below w.heap.size w w1:=by rw [hw1];exact below_alloc _ _
 have x2:w1.cell? ⟨w.heap.size,2,none⟩=some (.slice a2 pn pc):=by rw [hw1];exact alloc1_new _ _ _ 2 rfl
 have G:=Lib.hid (SlR.below jobR_fits g b1);have G2:=Lib.hid (SlR.below (slR_fits reqR_fits) g2 b1);have GA:=Lib.hid (SlR.below intR_fits ga b1);have B1:=Lib.hid b1;have HC:=Lib.hid hc;have HX:=Lib.hid x2;clear g g2 ga b1 hc x2;go_enter Try.func85,Try.ntmps85
 go_upto_region 1 with fail
 rw [<- hw1];clear hw1;go_wp2_with fail
 go_loopw [9] (fun i wr=>∃ k:Nat,k<=n∧i = .int .i64 k∧(∀ j (h:j<l.length),j<k->jobGood c asked dn l[j]=true)∧RiseTo l k∧Below w.heap.size w wr∧Below w1.heap.size w1 wr) (fun i _=>n - (intOf i).toNat)
 case atStart=>exact ⟨0,Nat.zero_le _,rfl,fun j _ h=>absurd h (Nat.not_lt_zero j),RiseTo.zero l,B1.out,Below.refl _ _⟩
 case round =>
  obtain ⟨k,hk,rfl,hg,hr,hb,hb1⟩:=hrel;have HG:=Lib.hid hg;have HR:=Lib.hid hr;have HB:=Lib.hid hb;clear hg hr hb;by_cases hlt:k<n
  ·have hL:k<l.length:=by rw [hn.out];exact hlt
   have Gk:=Lib.hid (SlR.below jobR_fits G.out hb1);obtain ⟨lb,lo,jv,df,rfl,hlb,-,-,⟨q0,q1,q2,q3,q4⟩,gd⟩:=jobs_at Gk.out hL;obtain ⟨⟨jw,jn,⟨ji,jc,jd⟩⟩,hj⟩:∃ z,l[k]=z:=⟨_,rfl⟩;rw [hj] at q0 q1 q2 q3 gd;have HJ:=Lib.hid hj;obtain ⟨dva,dvn,dvc,rfl,hdv,-,-,-,-⟩:=gd.opened;have HDv:Hid ((jd.length == 0)=((dvn:Int) == 0)):=Lib.hid (by rw [hdv.out,Bool.eq_iff_iff];simp);have hkn:(k:Int)<(n:Int):=by omega
   clear hdv;go_upto_region 5 with fail
   obtain ⟨w4,hw4⟩:∃ z,z=wr.alloc (.cells #[.int .i64 jw,.int .i64 jn,.int .i64 ji,.int .i64 jc,.slice dva dvn dvc] 64):=⟨_,rfl⟩;rw [<- hw4];have b4:Below wr.heap.size wr w4:=by rw [hw4];exact below_alloc _ _
   have D0:w4.cell? ⟨wr.heap.size,0,none⟩=some (.int .i64 jw):=by rw [hw4];exact alloc1_new _ _ _ 0 rfl
   have D1:w4.cell? ⟨wr.heap.size,1,none⟩=some (.int .i64 jn):=by rw [hw4];exact alloc1_new _ _ _ 1 rfl
   have D2:w4.cell? ⟨wr.heap.size,2,none⟩=some (.int .i64 ji):=by rw [hw4];exact alloc1_new _ _ _ 2 rfl
   have D3:w4.cell? ⟨wr.heap.size,3,none⟩=some (.int .i64 jc):=by rw [hw4];exact alloc1_new _ _ _ 3 rfl
   have D4:w4.cell? ⟨wr.heap.size,4,none⟩=some (.slice dva dvn dvc):=by rw [hw4];exact alloc1_new _ _ _ 4 rfl
   have B4:=Lib.hid (HB.out.trans (b4.mono HB.out.size));have b14:=hb1.trans (b4.mono hb1.size);have B14:=Lib.hid b14;have GD4:=Lib.hid (SlR.below intR_fits gd b4);have X2:=keep_cell b14 HX.out;clear hw4 b4 q0 q1 q2 q3 q4 gd hj;generalize wr.heap.size=bj at *;obtain ⟨bw,hw⟩:∃ z,inB jw 0 2=z:=⟨_,rfl⟩;have HWho:=Lib.hid hw;cases bw
   ·have HNo:Hid (jobGood c asked dn l[k]=false):=Lib.hid (by rw [HJ.out];unfold jobGood jobFit;simp only [HWho.out,Bool.false_and]);clear b14 hb1 X2 hw;have hst:∀ F,F∈[FEq (.pointer (some ⟨bj,0,none⟩)),FEq (.int .i64 jw),FEq (.bool false),FEq (.bool true),FEq (.bool true),FEq undef,FEq undef,FEq undef,FEq undef,FEq undef,FEq undef,FEq undef,FEq undef,FEq undef,FEq undef,FEq (.bool true),FEq (.bool true),FEq undef,FEq undef,FEq undef,FEq undef,FEq undef,FEq undef,FEq undef,FEq undef,FEq undef,FEq undef,FEq undef,FEq undef]->Stable [] F:=by repeat first|exact st_nil|refine st_eq ?_
    refine wp_skip2H hst tbl5Jobs5 (fun _ w'=>Below w4.heap.size w4 w') 98 30 29 [some 21,some 22,some 23,some 24,some 25,some 26,some 27,some 28,some 29,some 30,some 31,some 32,some 33,some 34,some 35,some 36,some 37,some 38,some 39,some 40,some 41,some 42,some 43,some 44,some 45,some 46,some 47,some 48,some 49] _ [5,6,7,8,9,10,11,12,13,14,17,18,19,20,21,22,23,24,25,26,27,28] [(16,true),(4,true)] ?h0 ?hop ?hend
    case h0=>exact (Below.refl _ _).drew
    case hop =>
     refine ⟨⟨⟨⟨⟨⟨⟨⟨⟨⟨⟨⟨⟨⟨⟨⟨⟨⟨⟨⟨⟨⟨⟨⟨⟨⟨⟨⟨⟨trivial,?_⟩,?_⟩,?_⟩,?_⟩,?_⟩,?_⟩,?_⟩,?_⟩,?_⟩,?_⟩,?_⟩,?_⟩,?_⟩,?_⟩,?_⟩,?_⟩,?_⟩,?_⟩,?_⟩,?_⟩,?_⟩,?_⟩,?_⟩,?_⟩,?_⟩,?_⟩,?_⟩,?_⟩,?_⟩
     all_goals first|exact .inl (by decide)|skip
     ·exact .inr (Owes.k0 98 [(10,.pointer (some ⟨bj,0,none⟩))])
     ·exact .inr (Owes.c1 98 21 0 D0)
     ·refine .inr (Owes.mk _ rfl rfl (fun _ _ h=>by cases h) fun u m w' hm hI hR=>⟨⟨(frm 98 [(22,u 1)]).toArray,[]⟩,rfl,fun d hd=>by cases hd;exact frm_lt (by decide),?_⟩);dsimp only [frm,List.foldl,List.replicate,List.set];have e1:u 1=_:=hR 1 (by decide);rw [e1];clear e1;have HI:=Lib.hid hI;clear hI hst;go_wp2_with fail
      refine (l1In_v HWho.out _).mono ?_;rintro e w5 ⟨rfl,rfl⟩;go_wp2;exact ⟨rfl,_,rfl,rfl,HI.out,fun _ _ h=>h⟩
     ·exact .inr (Owes.k1 98 23 2)
     ·exact .inr (Owes.k1 98 24 3)
     ·exact .inr (Owes.k2 98 25 4 35 14)
     ·exact .inr (Owes.k1 98 36 15)
    case hend =>
     intro u w' hI hR;simp only [setAll,List.set_cons_zero,List.set_cons_succ];have e16:u 16=_:=hR 16 (by decide);rw [e16];clear e16;have HB5:=Lib.hid (B4.out.trans (hI.mono B4.out.size));clear D0 D1 D2 D3 D4;clear hR hst hI;go_wp2;go_ret;exact ⟨ret_bool (jobs_no1 hL HNo.out).symm,HB5.out⟩
   ·have hw2:=inB_true.1 hw;obtain ⟨uu,rfl⟩:=Int.eq_ofNat_of_zero_le hw2.1;have hu3:uu<asked.length:=by rw [HC.out.la];omega
    have hu4:uu<c.progs.length:=by rw [HC.out.lp];omega
    obtain ⟨au,hau⟩:∃ z,asked[uu]=z:=⟨_,rfl⟩;obtain ⟨ha1,ha2,ha3⟩:=HC.out.at' uu hu3 hu4;rw [hau] at ha1 ha2;have Gak:=Lib.hid (SlR.below intR_fits GA.out b14);obtain ⟨_,_,_,ea,-,-,-,-,ra⟩:=Gak.out.opened;cases ea;obtain ⟨_,ab,ao,_,cs,rfl,-,-,-,⟨rfl,-⟩,ea⟩:=ra uu (by rw [<- han.out];exact hu3);have A0:=ea 0 (by simp);simp only [Nat.mul_one,Nat.add_zero,List.getElem_cons_zero] at A0;rw [hau] at A0;have hua:(uu:Int)<(an:Int):=by have:=han.out;omega
    have HU:Hid (∀ (x:Int) (r:Rsp),jobFit asked ⟨uu,x,r⟩=inB x 0 (au - 1)):=Lib.hid (fun x r=>by rw [fit_at hu3 rfl,HWho.out,hau];rfl);clear ra ea hw hau hw2;obtain ⟨bn,hbn⟩:∃ z,inB jn 0 (au - 1)=z:=⟨_,rfl⟩;have HN:=Lib.hid hbn;cases bn
    ·have HNo:Hid (jobGood c asked dn l[k]=false):=Lib.hid (by rw [HJ.out];unfold jobGood;rw [HU.out,HN.out];rfl);clear b14 hb1 X2 hbn;have hst:∀ F,F∈[FEq (.pointer (some ⟨bj,0,none⟩)),FEq (.int .i64 (uu:Int)),FEq (.bool true),FEq (.bool false),FEq (.bool false),FEq (.pointer (some ⟨bj,1,none⟩)),FEq (.int .i64 jn),FEq (.slice (some ⟨ab,ao,none⟩) an ac),FEq (.pointer (some ⟨bj,0,none⟩)),FEq (.int .i64 (uu:Int)),FEq (.pointer (some ⟨ab,ao+uu,none⟩)),FEq (.int .i64 au),FEq (.int .i64 (au - 1)),FEq (.bool false),FEq (.bool true),FEq (.bool true),FEq (.bool true),FEq undef,FEq undef,FEq undef,FEq undef,FEq undef,FEq undef,FEq undef,FEq undef,FEq undef,FEq undef,FEq undef,FEq undef]->Stable [] F:=by repeat first|exact st_nil|refine st_eq ?_
     refine wp_skip2H hst tbl5Jobs5 (fun _ w'=>Below w4.heap.size w4 w') 98 30 29 [some 21,some 22,some 23,some 24,some 25,some 26,some 27,some 28,some 29,some 30,some 31,some 32,some 33,some 34,some 35,some 36,some 37,some 38,some 39,some 40,some 41,some 42,some 43,some 44,some 45,some 46,some 47,some 48,some 49] _ [17,18,19,20,21,22,23,24,25,26,27,28] [(16,true),(4,false)] ?h0 ?hop ?hend
     case h0=>exact (Below.refl _ _).drew
     case hop =>
      refine ⟨⟨⟨⟨⟨⟨⟨⟨⟨⟨⟨⟨⟨⟨⟨⟨⟨⟨⟨⟨⟨⟨⟨⟨⟨⟨⟨⟨⟨trivial,?_⟩,?_⟩,?_⟩,?_⟩,?_⟩,?_⟩,?_⟩,?_⟩,?_⟩,?_⟩,?_⟩,?_⟩,?_⟩,?_⟩,?_⟩,?_⟩,?_⟩,?_⟩,?_⟩,?_⟩,?_⟩,?_⟩,?_⟩,?_⟩,?_⟩,?_⟩,?_⟩,?_⟩,?_⟩
      all_goals first|exact .inl (by decide)|skip
      ·exact .inr (Owes.k0 98 [(10,.pointer (some ⟨bj,0,none⟩))])
      ·exact .inr (Owes.c1 98 21 0 D0)
      ·refine .inr (Owes.mk _ rfl rfl (fun _ _ h=>by cases h) fun u m w' hm hI hR=>⟨⟨(frm 98 [(22,u 1)]).toArray,[]⟩,rfl,fun d hd=>by cases hd;exact frm_lt (by decide),?_⟩);dsimp only [frm,List.foldl,List.replicate,List.set];have e1:u 1=_:=hR 1 (by decide);rw [e1];clear e1;have HI:=Lib.hid hI;clear hI hst;go_wp2_with fail
       refine (l1In_v HWho.out _).mono ?_;rintro e w5 ⟨rfl,rfl⟩;go_wp2;exact ⟨rfl,_,rfl,rfl,HI.out,fun _ _ h=>h⟩
      ·exact .inr (Owes.k1 98 23 2)
      ·exact .inr (Owes.k1 98 24 3)
      ·exact .inr (Owes.k0G 98 [(10,.pointer (some ⟨bj,0,none⟩))])
      ·exact .inr (Owes.c1G 98 26 5 D1)
      ·exact .inr (Owes.k0G 98 [(1,.slice (some ⟨ab,ao,none⟩) an ac)])
      ·exact .inr (Owes.k0G 98 [(10,.pointer (some ⟨bj,0,none⟩))])
      ·exact .inr (Owes.c1G 98 29 8 D0)
      ·exact .inr (Owes.k2G 98 28 7 30 9)
      ·exact .inr (Owes.c1G 98 31 10 A0)
      ·refine .inr (Owes.mkG _ _ rfl rfl (fun _ _ h=>by cases h) fun u m w' hm hI hR=>⟨⟨(frm 98 [(32,u 11)]).toArray,[]⟩,rfl,fun d hd=>by cases hd;exact frm_lt (by decide),?_⟩);dsimp only [frm,List.foldl,List.replicate,List.set];have e11:u 11=_:=hR 11 (by decide);rw [e11];clear e11;have HI:=Lib.hid hI;clear hI hst hR;go_wp2;exact ⟨rfl,_,rfl,(by show _=_;go_num),HI.out,fun _ _ h=>h⟩
      ·refine .inr (Owes.mkG _ _ rfl rfl (fun _ _ h=>by cases h) fun u m w' hm hI hR=>⟨⟨(frm 98 [(27,u 6),(33,u 12)]).toArray,[]⟩,rfl,fun d hd=>by cases hd;exact frm_lt (by decide),?_⟩);dsimp only [frm,List.foldl,List.replicate,List.set];have e6:u 6=_:=hR 6 (by decide);have e12:u 12=_:=hR 12 (by decide);rw [e6,e12];clear e6 e12;have HI:=Lib.hid hI;clear hI hst;go_wp2_with fail
       refine (l1In_v HN.out _).mono ?_;rintro e w5 ⟨rfl,rfl⟩;go_wp2;exact ⟨rfl,_,rfl,rfl,HI.out,fun _ _ h=>h⟩
      ·exact .inr (Owes.k1G 98 34 13)
      ·exact .inr (Owes.k2 98 25 4 35 14)
      ·exact .inr (Owes.k1 98 36 15)
     case hend =>
      intro u w' hI hR;simp only [setAll,List.set_cons_zero,List.set_cons_succ];have e16:u 16=_:=hR 16 (by decide);rw [e16];clear e16;have HB5:=Lib.hid (B4.out.trans (hI.mono B4.out.size));clear D0 D1 D2 D3 D4 A0;clear hR hst hI;go_wp2;go_ret;exact ⟨ret_bool (jobs_no1 hL HNo.out).symm,HB5.out⟩
    ·have hn2:=inB_true.1 hbn;obtain ⟨ii,rfl⟩:=Int.eq_ofNat_of_zero_le hn2.1;have hil:ii<c.progs[uu].length:=by omega
     have G2k:=Lib.hid (SlR.below (slR_fits reqR_fits) G2.out b14);obtain ⟨_,_,_,ep,-,-,-,-,rp⟩:=G2k.out.opened;cases ep;obtain ⟨_,pb,po,fq,cs,rfl,-,-,-,⟨y,rfl,hy⟩,ep⟩:=rp uu (by rw [<- hpn.out];exact hu4);have Y0:=ep 0 (by simp);simp only [Nat.mul_one,Nat.add_zero,List.getElem_cons_zero] at Y0;obtain ⟨a3,rn,rc,rfl,hrn,-,-,-,rr⟩:=hy.opened;obtain ⟨_,rb,ro,_,cs,rfl,-,-,-,⟨_,_,_,_,rfl,_,_,_⟩,er⟩:=rr ii (by rw [<- hrn.out];exact hil);have Z0:=er 0 (by simp);simp only [Nat.add_zero,List.getElem_cons_zero] at Z0;have HId:Hid (idAt c uu ii=c.progs[uu][ii].id):=Lib.hid (idAt_at hu4 hil);obtain ⟨rid,hrid⟩:∃ z,c.progs[uu][ii].id=z:=⟨_,rfl⟩;rw [hrid] at Z0 HId;have hup:(uu:Int)<(pn:Int):=by have:=hpn.out;omega
     have hir:(ii:Int)<(rn:Int):=by have:=hrn.out;omega
     have HFit:Hid (∀ (x:Rsp),jobGood c asked dn ⟨uu,ii,x⟩=(true && jobCame c dn ⟨uu,ii,x⟩)):=Lib.hid (fun x=>by unfold jobGood;rw [HU.out,HN.out]);clear rp ep hy rr er hrid hbn hn2 G2k Gak;by_cases hk0:k=0
     ·have hpos:decide (0<(k:Int))=false:=decide_eq_false (by omega);have hposN:decide (0<k)=false:=decide_eq_false (by omega);have HK0:=Lib.hid hk0;clear b14 hb1 hk0;have hst:∀ F,F∈[FEq (.pointer (some ⟨bj,0,none⟩)),FEq (.int .i64 (uu:Int)),FEq (.bool true),FEq (.bool false),FEq (.bool false),FEq (.pointer (some ⟨bj,1,none⟩)),FEq (.int .i64 (ii:Int)),FEq (.slice (some ⟨ab,ao,none⟩) an ac),FEq (.pointer (some ⟨bj,0,none⟩)),FEq (.int .i64 (uu:Int)),FEq (.pointer (some ⟨ab,ao+uu,none⟩)),FEq (.int .i64 au),FEq (.int .i64 (au - 1)),FEq (.bool true),FEq (.bool false),FEq (.bool false),FEq (.bool false),FEq (.int .i64 (k:Int)),FEq (.bool false),FEq (.bool false),FEq undef,FEq undef,FEq undef,FEq undef,FEq undef,FEq undef,FEq undef,FEq undef,FEq (.bool false)]->Stable [] F:=by repeat first|exact st_nil|refine st_eq ?_
      refine wp_skipH hst tbl5Jobs5 (fun _ w'=>Below w4.heap.size w4 w') 98 30 29 [some 21,some 22,some 23,some 24,some 25,some 26,some 27,some 28,some 29,some 30,some 31,some 32,some 33,some 34,some 35,some 36,some 37,some 38,some 39,some 40,some 41,some 42,some 43,some 44,some 45,some 46,some 47,some 48,some 49] _ [20,21,22,23,24,25,26,27] [(16,false),(19,false),(4,false)] ?h0 ?hop ?hend
      case h0=>exact (Below.refl _ _).drew
      case hop =>
       refine ⟨⟨⟨⟨⟨⟨⟨⟨⟨⟨⟨⟨⟨⟨⟨⟨⟨⟨⟨⟨⟨⟨⟨⟨⟨⟨⟨⟨⟨trivial,?_⟩,?_⟩,?_⟩,?_⟩,?_⟩,?_⟩,?_⟩,?_⟩,?_⟩,?_⟩,?_⟩,?_⟩,?_⟩,?_⟩,?_⟩,?_⟩,?_⟩,?_⟩,?_⟩,?_⟩,?_⟩,?_⟩,?_⟩,?_⟩,?_⟩,?_⟩,?_⟩,?_⟩,?_⟩
       all_goals first|exact .inl (by decide)|skip
       ·exact .inr (Owes.k0 98 [(10,.pointer (some ⟨bj,0,none⟩))])
       ·exact .inr (Owes.c1 98 21 0 D0)
       ·refine .inr (Owes.mk _ rfl rfl (fun _ _ h=>by cases h) fun u m w' hm hI hR=>⟨⟨(frm 98 [(22,u 1)]).toArray,[]⟩,rfl,fun d hd=>by cases hd;exact frm_lt (by decide),?_⟩);dsimp only [frm,List.foldl,List.replicate,List.set];have e1:u 1=_:=hR 1 (by decide);rw [e1];clear e1;have HI:=Lib.hid hI;clear hI hst;go_wp2_with fail
        refine (l1In_v HWho.out _).mono ?_;rintro e w5 ⟨rfl,rfl⟩;go_wp2;exact ⟨rfl,_,rfl,rfl,HI.out,fun _ _ h=>h⟩
       ·exact .inr (Owes.k1 98 23 2)
       ·exact .inr (Owes.k1 98 24 3)
       ·exact .inr (Owes.k0G 98 [(10,.pointer (some ⟨bj,0,none⟩))])
       ·exact .inr (Owes.c1G 98 26 5 D1)
       ·exact .inr (Owes.k0G 98 [(1,.slice (some ⟨ab,ao,none⟩) an ac)])
       ·exact .inr (Owes.k0G 98 [(10,.pointer (some ⟨bj,0,none⟩))])
       ·exact .inr (Owes.c1G 98 29 8 D0)
       ·exact .inr (Owes.k2G 98 28 7 30 9)
       ·exact .inr (Owes.c1G 98 31 10 A0)
       ·refine .inr (Owes.mkG _ _ rfl rfl (fun _ _ h=>by cases h) fun u m w' hm hI hR=>⟨⟨(frm 98 [(32,u 11)]).toArray,[]⟩,rfl,fun d hd=>by cases hd;exact frm_lt (by decide),?_⟩);dsimp only [frm,List.foldl,List.replicate,List.set];have e11:u 11=_:=hR 11 (by decide);rw [e11];clear e11;have HI:=Lib.hid hI;clear hI hst hR;go_wp2;exact ⟨rfl,_,rfl,(by show _=_;go_num),HI.out,fun _ _ h=>h⟩
       ·refine .inr (Owes.mkG _ _ rfl rfl (fun _ _ h=>by cases h) fun u m w' hm hI hR=>⟨⟨(frm 98 [(27,u 6),(33,u 12)]).toArray,[]⟩,rfl,fun d hd=>by cases hd;exact frm_lt (by decide),?_⟩);dsimp only [frm,List.foldl,List.replicate,List.set];have e6:u 6=_:=hR 6 (by decide);have e12:u 12=_:=hR 12 (by decide);rw [e6,e12];clear e6 e12;have HI:=Lib.hid hI;clear hI hst;go_wp2_with fail
        refine (l1In_v HN.out _).mono ?_;rintro e w5 ⟨rfl,rfl⟩;go_wp2;exact ⟨rfl,_,rfl,rfl,HI.out,fun _ _ h=>h⟩
       ·exact .inr (Owes.k1G 98 34 13)
       ·exact .inr (Owes.k2 98 25 4 35 14)
       ·exact .inr (Owes.k1 98 36 15)
       ·exact .inr (Owes.k0G 98 [(9,.int .i64 (k:Int))])
       ·exact .inr (Owes.k1G 98 38 17)
       ·exact .inr (Owes.k1G 98 39 18)
       ·exact .inr (Owes.k2G 98 40 19 48 27)
      case hend =>
       intro u w' hI hR;simp only [setAll,List.set_cons_zero,List.set_cons_succ];have e16:u 16=_:=hR 16 (by decide);have e28:u 28=_:=hR 28 (by decide);rw [e16,e28];clear e16 e28;have hB5:=hI;have D0n:=keep_cell hB5 D0;have D1n:=keep_cell hB5 D1;have D2n:=keep_cell hB5 D2;have D3n:=keep_cell hB5 D3;have D4n:=keep_cell hB5 D4;have X2n:=keep_cell hB5 X2;have Y0n:=keep_cell hB5 Y0;have Z0n:=keep_cell hB5 Z0;have HB6:=Lib.hid (B4.out.trans (hB5.mono B4.out.size));have HB16:=Lib.hid (B14.out.trans (hB5.mono B14.out.size));have GD5:=Lib.hid (SlR.below intR_fits GD4.out hB5);clear hR hst hI hB5 D0 D1 D2 D3 D4 X2 Y0 Z0 A0;have D0:=D0n;clear D0n;have D1:=D1n;clear D1n;have D2:=D2n;clear D2n;have D3:=D3n;clear D3n;have D4:=D4n;clear D4n;have X2:=X2n;clear X2n;have Y0:=Y0n;clear Y0n;have Z0:=Z0n;clear Z0n;obtain ⟨w6,rfl⟩:∃ z,z=w':=⟨_,rfl⟩;cases dn
       ·obtain ⟨b0,h0⟩:∃ z,(ji == 0)=z:=⟨_,rfl⟩;obtain ⟨b1,h1⟩:∃ z,(jc == 0)=z:=⟨_,rfl⟩;obtain ⟨b2,h2⟩:∃ z,((dvn:Int) == 0)=z:=⟨_,rfl⟩;have H0:=Lib.hid h0;have H1:=Lib.hid h1;have H2:=Lib.hid h2;have t0:(ji != 0) = !b0:=by rw [<- h0];rfl
        have t1:(jc != 0) = !b1:=by rw [<- h1];rfl
        have t2:((dvn:Int) != 0) = !b2:=by rw [<- h2];rfl
        have HCm:Hid (jobCame c false ⟨uu,ii,⟨ji,jc,jd⟩⟩=(b0 && (b1 && b2))):=Lib.hid (by unfold jobCame rspNone;rw [<- h0,<- h1,<- h2,HDv.out];rfl);clear h0 h1 h2;cases b0
        ·have HNo:Hid (jobGood c asked false l[k]=false):=Lib.hid (by rw [HJ.out,HFit.out,HCm.out];rfl);go_upto_region 7 with fail
         have hst:∀ F,F∈[FEq (.bool false),FEq (.bool false),FEq undef,FEq undef,FEq undef,FEq undef,FEq undef,FEq undef,FEq undef,FEq undef,FEq undef,FEq undef,FEq undef,FEq undef,FEq undef,FEq undef,FEq undef,FEq undef,FEq undef,FEq undef,FEq undef,FEq undef,FEq undef,FEq (.bool false),FEq (.bool false),FEq (.bool false),FEq (.bool true),FEq (.bool true),FEq (.pointer (some ⟨bj,2,none⟩)),FEq (.pointer (some ⟨bj,2,none⟩)),FEq (.int .i64 ji),FEq (.bool true),FEq (.bool true),FEq undef,FEq undef,FEq undef,FEq undef,FEq (.bool true),FEq (.bool true),FEq undef,FEq undef,FEq undef,FEq undef,FEq undef,FEq (.bool true),FEq (.bool true)]->Stable [] F:=by repeat first|exact st_nil|refine st_eq ?_
         refine wp_skip2H hst tbl5Jobs7 (fun _ w'=>Below w6.heap.size w6 w') 98 47 46 [some 51,some 52,some 53,some 54,some 55,some 56,some 57,some 58,some 59,some 60,some 61,some 62,some 63,some 64,some 65,some 66,some 67,some 68,some 69,some 70,some 71,some 72,some 73,some 74,some 75,some 76,some 77,some 78,some 79,some 80,some 81,some 82,some 83,some 84,some 85,some 86,some 87,some 88,some 89,some 90,some 91,some 92,some 93,some 94,some 95,some 96] _ [2,3,4,5,6,7,8,9,10,11,12,13,14,15,16,17,18,19,20,21,22,33,34,35,36,39,40,41,42,43] [(1,false),(24,false),(27,true),(32,true),(38,true)] ?h0 ?hop ?hend
         case h0=>exact (Below.refl _ _).drew
         case hop =>
          refine ⟨⟨⟨⟨⟨⟨⟨⟨⟨⟨⟨⟨⟨⟨⟨⟨⟨⟨⟨⟨⟨⟨⟨⟨⟨⟨⟨⟨⟨⟨⟨⟨⟨⟨⟨⟨⟨⟨⟨⟨⟨⟨⟨⟨⟨⟨trivial,?_⟩,?_⟩,?_⟩,?_⟩,?_⟩,?_⟩,?_⟩,?_⟩,?_⟩,?_⟩,?_⟩,?_⟩,?_⟩,?_⟩,?_⟩,?_⟩,?_⟩,?_⟩,?_⟩,?_⟩,?_⟩,?_⟩,?_⟩,?_⟩,?_⟩,?_⟩,?_⟩,?_⟩,?_⟩,?_⟩,?_⟩,?_⟩,?_⟩,?_⟩,?_⟩,?_⟩,?_⟩,?_⟩,?_⟩,?_⟩,?_⟩,?_⟩,?_⟩,?_⟩,?_⟩,?_⟩
          all_goals first|exact .inl (by decide)|skip
          ·exact .inr (Owes.k0 98 [(3,.bool false)])
          ·exact .inr (Owes.k1 98 51 0)
          ·exact .inr (Owes.k2 98 52 1 73 22)
          ·exact .inr (Owes.k1 98 74 23)
          ·exact .inr (Owes.k0G 98 [(3,.bool false)])
          ·exact .inr (Owes.k1G 98 76 25)
          ·exact .inr (Owes.k1G 98 77 26)
          ·exact .inr (Owes.k0G 98 [(10,.pointer (some ⟨bj,0,none⟩))])
          ·exact .inr (Owes.k1G 98 79 28)
          ·exact .inr (Owes.c1G 98 80 29 D2)
          ·exact .inr (Owes.k1G 98 81 30)
          ·exact .inr (Owes.k1G 98 82 31)
          ·exact .inr (Owes.k2G 98 83 32 87 36)
          ·exact .inr (Owes.k1G 98 88 37)
          ·exact .inr (Owes.k2G 98 89 38 94 43)
          ·exact .inr (Owes.k2G 98 78 27 95 44)
         case hend =>
          intro u w' hI hR;simp only [setAll,List.set_cons_zero,List.set_cons_succ];have e24:u 24=_:=hR 24 (by decide);have e45:u 45=_:=hR 45 (by decide);rw [e24,e45];clear e24 e45;have HB7:=Lib.hid (HB6.out.trans (hI.mono HB6.out.size));have HB17:=Lib.hid (HB16.out.trans (hI.mono HB16.out.size));clear hR hst hI;go_wp2;go_ret;exact ⟨ret_bool (jobs_no1 hL HNo.out).symm,HB7.out⟩
        ·cases b1
         ·have HNo:Hid (jobGood c asked false l[k]=false):=Lib.hid (by rw [HJ.out,HFit.out,HCm.out];rfl);go_upto_region 7 with fail
          have hst:∀ F,F∈[FEq (.bool false),FEq (.bool false),FEq undef,FEq undef,FEq undef,FEq undef,FEq undef,FEq undef,FEq undef,FEq undef,FEq undef,FEq undef,FEq undef,FEq undef,FEq undef,FEq undef,FEq undef,FEq undef,FEq undef,FEq undef,FEq undef,FEq undef,FEq undef,FEq (.bool false),FEq (.bool false),FEq (.bool false),FEq (.bool true),FEq (.bool true),FEq (.pointer (some ⟨bj,2,none⟩)),FEq (.pointer (some ⟨bj,2,none⟩)),FEq (.int .i64 ji),FEq (.bool false),FEq (.bool false),FEq (.pointer (some ⟨bj,2,none⟩)),FEq (.pointer (some ⟨bj,3,none⟩)),FEq (.int .i64 jc),FEq (.bool true),FEq (.bool true),FEq (.bool true),FEq undef,FEq undef,FEq undef,FEq undef,FEq undef,FEq (.bool true),FEq (.bool true)]->Stable [] F:=by repeat first|exact st_nil|refine st_eq ?_
          refine wp_skip2H hst tbl5Jobs7 (fun _ w'=>Below w6.heap.size w6 w') 98 47 46 [some 51,some 52,some 53,some 54,some 55,some 56,some 57,some 58,some 59,some 60,some 61,some 62,some 63,some 64,some 65,some 66,some 67,some 68,some 69,some 70,some 71,some 72,some 73,some 74,some 75,some 76,some 77,some 78,some 79,some 80,some 81,some 82,some 83,some 84,some 85,some 86,some 87,some 88,some 89,some 90,some 91,some 92,some 93,some 94,some 95,some 96] _ [2,3,4,5,6,7,8,9,10,11,12,13,14,15,16,17,18,19,20,21,22,39,40,41,42,43] [(1,false),(24,false),(27,true),(32,false),(38,true)] ?h0 ?hop ?hend
          case h0=>exact (Below.refl _ _).drew
          case hop =>
           refine ⟨⟨⟨⟨⟨⟨⟨⟨⟨⟨⟨⟨⟨⟨⟨⟨⟨⟨⟨⟨⟨⟨⟨⟨⟨⟨⟨⟨⟨⟨⟨⟨⟨⟨⟨⟨⟨⟨⟨⟨⟨⟨⟨⟨⟨⟨trivial,?_⟩,?_⟩,?_⟩,?_⟩,?_⟩,?_⟩,?_⟩,?_⟩,?_⟩,?_⟩,?_⟩,?_⟩,?_⟩,?_⟩,?_⟩,?_⟩,?_⟩,?_⟩,?_⟩,?_⟩,?_⟩,?_⟩,?_⟩,?_⟩,?_⟩,?_⟩,?_⟩,?_⟩,?_⟩,?_⟩,?_⟩,?_⟩,?_⟩,?_⟩,?_⟩,?_⟩,?_⟩,?_⟩,?_⟩,?_⟩,?_⟩,?_⟩,?_⟩,?_⟩,?_⟩,?_⟩
           all_goals first|exact .inl (by decide)|skip
           ·exact .inr (Owes.k0 98 [(3,.bool false)])
           ·exact .inr (Owes.k1 98 51 0)
           ·exact .inr (Owes.k2 98 52 1 73 22)
           ·exact .inr (Owes.k1 98 74 23)
           ·exact .inr (Owes.k0G 98 [(3,.bool false)])
           ·exact .inr (Owes.k1G 98 76 25)
           ·exact .inr (Owes.k1G 98 77 26)
           ·exact .inr (Owes.k0G 98 [(10,.pointer (some ⟨bj,0,none⟩))])
           ·exact .inr (Owes.k1G 98 79 28)
           ·exact .inr (Owes.c1G 98 80 29 D2)
           ·exact .inr (Owes.k1G 98 81 30)
           ·exact .inr (Owes.k1G 98 82 31)
           ·exact .inr (Owes.k0G 98 [(10,.pointer (some ⟨bj,0,none⟩))])
           ·exact .inr (Owes.k1G 98 84 33)
           ·exact .inr (Owes.c1G 98 85 34 D3)
           ·exact .inr (Owes.k1G 98 86 35)
           ·exact .inr (Owes.k2G 98 83 32 87 36)
           ·exact .inr (Owes.k1G 98 88 37)
           ·exact .inr (Owes.k2G 98 89 38 94 43)
           ·exact .inr (Owes.k2G 98 78 27 95 44)
          case hend =>
           intro u w' hI hR;simp only [setAll,List.set_cons_zero,List.set_cons_succ];have e24:u 24=_:=hR 24 (by decide);have e45:u 45=_:=hR 45 (by decide);rw [e24,e45];clear e24 e45;have HB7:=Lib.hid (HB6.out.trans (hI.mono HB6.out.size));have HB17:=Lib.hid (HB16.out.trans (hI.mono HB16.out.size));clear hR hst hI;go_wp2;go_ret;exact ⟨ret_bool (jobs_no1 hL HNo.out).symm,HB7.out⟩
         ·cases b2
          ·have HNo:Hid (jobGood c asked false l[k]=false):=Lib.hid (by rw [HJ.out,HFit.out,HCm.out];rfl);go_upto_region 7 with fail
           have hst:∀ F,F∈[FEq (.bool false),FEq (.bool false),FEq undef,FEq undef,FEq undef,FEq undef,FEq undef,FEq undef,FEq undef,FEq undef,FEq undef,FEq undef,FEq undef,FEq undef,FEq undef,FEq undef,FEq undef,FEq undef,FEq undef,FEq undef,FEq undef,FEq undef,FEq undef,FEq (.bool false),FEq (.bool false),FEq (.bool false),FEq (.bool true),FEq (.bool true),FEq (.pointer (some ⟨bj,2,none⟩)),FEq (.pointer (some ⟨bj,2,none⟩)),FEq (.int .i64 ji),FEq (.bool false),FEq (.bool false),FEq (.pointer (some ⟨bj,2,none⟩)),FEq (.pointer (some ⟨bj,3,none⟩)),FEq (.int .i64 jc),FEq (.bool false),FEq (.bool false),FEq (.bool false),FEq (.pointer (some ⟨bj,2,none⟩)),FEq (.pointer (some ⟨bj,4,none⟩)),FEq (.slice dva dvn dvc),FEq (.int .i64 (dvn:Int)),FEq (.bool true),FEq (.bool true),FEq (.bool true)]->Stable [] F:=by repeat first|exact st_nil|refine st_eq ?_
           refine wp_skip2H hst tbl5Jobs7 (fun _ w'=>Below w6.heap.size w6 w') 98 47 46 [some 51,some 52,some 53,some 54,some 55,some 56,some 57,some 58,some 59,some 60,some 61,some 62,some 63,some 64,some 65,some 66,some 67,some 68,some 69,some 70,some 71,some 72,some 73,some 74,some 75,some 76,some 77,some 78,some 79,some 80,some 81,some 82,some 83,some 84,some 85,some 86,some 87,some 88,some 89,some 90,some 91,some 92,some 93,some 94,some 95,some 96] _ [2,3,4,5,6,7,8,9,10,11,12,13,14,15,16,17,18,19,20,21,22] [(1,false),(24,false),(27,true),(32,false),(38,false)] ?h0 ?hop ?hend
           case h0=>exact (Below.refl _ _).drew
           case hop =>
            refine ⟨⟨⟨⟨⟨⟨⟨⟨⟨⟨⟨⟨⟨⟨⟨⟨⟨⟨⟨⟨⟨⟨⟨⟨⟨⟨⟨⟨⟨⟨⟨⟨⟨⟨⟨⟨⟨⟨⟨⟨⟨⟨⟨⟨⟨⟨trivial,?_⟩,?_⟩,?_⟩,?_⟩,?_⟩,?_⟩,?_⟩,?_⟩,?_⟩,?_⟩,?_⟩,?_⟩,?_⟩,?_⟩,?_⟩,?_⟩,?_⟩,?_⟩,?_⟩,?_⟩,?_⟩,?_⟩,?_⟩,?_⟩,?_⟩,?_⟩,?_⟩,?_⟩,?_⟩,?_⟩,?_⟩,?_⟩,?_⟩,?_⟩,?_⟩,?_⟩,?_⟩,?_⟩,?_⟩,?_⟩,?_⟩,?_⟩,?_⟩,?_⟩,?_⟩,?_⟩
            all_goals first|exact .inl (by decide)|skip
            ·exact .inr (Owes.k0 98 [(3,.bool false)])
            ·exact .inr (Owes.k1 98 51 0)
            ·exact .inr (Owes.k2 98 52 1 73 22)
            ·exact .inr (Owes.k1 98 74 23)
            ·exact .inr (Owes.k0G 98 [(3,.bool false)])
            ·exact .inr (Owes.k1G 98 76 25)
            ·exact .inr (Owes.k1G 98 77 26)
            ·exact .inr (Owes.k0G 98 [(10,.pointer (some ⟨bj,0,none⟩))])
            ·exact .inr (Owes.k1G 98 79 28)
            ·exact .inr (Owes.c1G 98 80 29 D2)
            ·exact .inr (Owes.k1G 98 81 30)
            ·exact .inr (Owes.k1G 98 82 31)
            ·exact .inr (Owes.k0G 98 [(10,.pointer (some ⟨bj,0,none⟩))])
            ·exact .inr (Owes.k1G 98 84 33)
            ·exact .inr (Owes.c1G 98 85 34 D3)
            ·exact .inr (Owes.k1G 98 86 35)
            ·exact .inr (Owes.k2G 98 83 32 87 36)
            ·exact .inr (Owes.k1G 98 88 37)
            ·exact .inr (Owes.k0G 98 [(10,.pointer (some ⟨bj,0,none⟩))])
            ·exact .inr (Owes.k1G 98 90 39)
            ·exact .inr (Owes.c1G 98 91 40 D4)
            ·exact .inr (Owes.k1G 98 92 41)
            ·exact .inr (Owes.k1G 98 93 42)
            ·exact .inr (Owes.k2G 98 89 38 94 43)
            ·exact .inr (Owes.k2G 98 78 27 95 44)
           case hend =>
            intro u w' hI hR;simp only [setAll,List.set_cons_zero,List.set_cons_succ];have e24:u 24=_:=hR 24 (by decide);have e45:u 45=_:=hR 45 (by decide);rw [e24,e45];clear e24 e45;have HB7:=Lib.hid (HB6.out.trans (hI.mono HB6.out.size));have HB17:=Lib.hid (HB16.out.trans (hI.mono HB16.out.size));clear hR hst hI;go_wp2;go_ret;exact ⟨ret_bool (jobs_no1 hL HNo.out).symm,HB7.out⟩
          ·have HGood:Hid (jobGood c asked false l[k]=true):=Lib.hid (by rw [HJ.out,HFit.out,HCm.out];rfl);go_upto_region 7 with fail
           have hst:∀ F,F∈[FEq (.bool false),FEq (.bool false),FEq undef,FEq undef,FEq undef,FEq undef,FEq undef,FEq undef,FEq undef,FEq undef,FEq undef,FEq undef,FEq undef,FEq undef,FEq undef,FEq undef,FEq undef,FEq undef,FEq undef,FEq undef,FEq undef,FEq undef,FEq undef,FEq (.bool false),FEq (.bool false),FEq (.bool false),FEq (.bool true),FEq (.bool true),FEq (.pointer (some ⟨bj,2,none⟩)),FEq (.pointer (some ⟨bj,2,none⟩)),FEq (.int .i64 ji),FEq (.bool false),FEq (.bool false),FEq (.pointer (some ⟨bj,2,none⟩)),FEq (.pointer (some ⟨bj,3,none⟩)),FEq (.int .i64 jc),FEq (.bool false),FEq (.bool false),FEq (.bool false),FEq (.pointer (some ⟨bj,2,none⟩)),FEq (.pointer (some ⟨bj,4,none⟩)),FEq (.slice dva dvn dvc),FEq (.int .i64 (dvn:Int)),FEq (.bool false),FEq (.bool false),FEq (.bool false)]->Stable [] F:=by repeat first|exact st_nil|refine st_eq ?_
           refine wp_skip2H hst tbl5Jobs7 (fun _ w'=>Below w6.heap.size w6 w') 98 47 46 [some 51,some 52,some 53,some 54,some 55,some 56,some 57,some 58,some 59,some 60,some 61,some 62,some 63,some 64,some 65,some 66,some 67,some 68,some 69,some 70,some 71,some 72,some 73,some 74,some 75,some 76,some 77,some 78,some 79,some 80,some 81,some 82,some 83,some 84,some 85,some 86,some 87,some 88,some 89,some 90,some 91,some 92,some 93,some 94,some 95,some 96] _ [2,3,4,5,6,7,8,9,10,11,12,13,14,15,16,17,18,19,20,21,22] [(1,false),(24,false),(27,true),(32,false),(38,false)] ?h0 ?hop ?hend
           case h0=>exact (Below.refl _ _).drew
           case hop =>
            refine ⟨⟨⟨⟨⟨⟨⟨⟨⟨⟨⟨⟨⟨⟨⟨⟨⟨⟨⟨⟨⟨⟨⟨⟨⟨⟨⟨⟨⟨⟨⟨⟨⟨⟨⟨⟨⟨⟨⟨⟨⟨⟨⟨⟨⟨⟨trivial,?_⟩,?_⟩,?_⟩,?_⟩,?_⟩,?_⟩,?_⟩,?_⟩,?_⟩,?_⟩,?_⟩,?_⟩,?_⟩,?_⟩,?_⟩,?_⟩,?_⟩,?_⟩,?_⟩,?_⟩,?_⟩,?_⟩,?_⟩,?_⟩,?_⟩,?_⟩,?_⟩,?_⟩,?_⟩,?_⟩,?_⟩,?_⟩,?_⟩,?_⟩,?_⟩,?_⟩,?_⟩,?_⟩,?_⟩,?_⟩,?_⟩,?_⟩,?_⟩,?_⟩,?_⟩,?_⟩
            all_goals first|exact .inl (by decide)|skip
            ·exact .inr (Owes.k0 98 [(3,.bool false)])
            ·exact .inr (Owes.k1 98 51 0)
            ·exact .inr (Owes.k2 98 52 1 73 22)
            ·exact .inr (Owes.k1 98 74 23)
            ·exact .inr (Owes.k0G 98 [(3,.bool false)])
            ·exact .inr (Owes.k1G 98 76 25)
            ·exact .inr (Owes.k1G 98 77 26)
            ·exact .inr (Owes.k0G 98 [(10,.pointer (some ⟨bj,0,none⟩))])
            ·exact .inr (Owes.k1G 98 79 28)
            ·exact .inr (Owes.c1G 98 80 29 D2)
            ·exact .inr (Owes.k1G 98 81 30)
            ·exact .inr (Owes.k1G 98 82 31)
            ·exact .inr (Owes.k0G 98 [(10,.pointer (some ⟨bj,0,none⟩))])
            ·exact .inr (Owes.k1G 98 84 33)
            ·exact .inr (Owes.c1G 98 85 34 D3)
            ·exact .inr (Owes.k1G 98 86 35)
            ·exact .inr (Owes.k2G 98 83 32 87 36)
            ·exact .inr (Owes.k1G 98 88 37)
            ·exact .inr (Owes.k0G 98 [(10,.pointer (some ⟨bj,0,none⟩))])
            ·exact .inr (Owes.k1G 98 90 39)
            ·exact .inr (Owes.c1G 98 91 40 D4)
            ·exact .inr (Owes.k1G 98 92 41)
            ·exact .inr (Owes.k1G 98 93 42)
            ·exact .inr (Owes.k2G 98 89 38 94 43)
            ·exact .inr (Owes.k2G 98 78 27 95 44)
           case hend =>
            intro u w' hI hR;simp only [setAll,List.set_cons_zero,List.set_cons_succ];have e24:u 24=_:=hR 24 (by decide);have e45:u 45=_:=hR 45 (by decide);rw [e24,e45];clear e24 e45;have HB7:=Lib.hid (HB6.out.trans (hI.mono HB6.out.size));have HB17:=Lib.hid (HB16.out.trans (hI.mono HB16.out.size));clear hR hst hI;go_wp2
            go_roundw
            case rel=>exact ⟨k+1,by omega,by go_num,(fun j h hj=>by
             by_cases e:j=k
             ·subst e;exact HGood.out
             ·exact HG.out j h (by omega)),(by have:=HK0.out;subst this;exact RiseTo.one l),HB7.out,HB17.out⟩
            case measure=>simp [intOf];omega
       ·obtain ⟨b0,h0⟩:∃ z,rspOk ⟨ji,jc,jd⟩=z:=⟨_,rfl⟩;obtain ⟨b1,h1⟩:∃ z,(ji == rid)=z:=⟨_,rfl⟩;have HRk:=Lib.hid h0;have t1:(ji != rid) = !b1:=by rw [<- h1];rfl
        have HCm:Hid (jobCame c true ⟨uu,ii,⟨ji,jc,jd⟩⟩=(b0 && b1)):=Lib.hid (by unfold jobCame;rw [HId.out,<- h0,<- h1];rfl);have H1:=Lib.hid h1;clear h0 h1;cases b0
        ·have HNo:Hid (jobGood c asked true l[k]=false):=Lib.hid (by rw [HJ.out,HFit.out,HCm.out];rfl);go_upto_region 7 with fail
         have hst:∀ F,F∈[FEq (.bool true),FEq (.bool true),FEq (.pointer (some ⟨bj,2,none⟩)),FEq (.agg #[.int .i64 ji,.int .i64 jc,.slice dva dvn dvc]),FEq (.bool false),FEq (.bool true),FEq (.bool true),FEq undef,FEq undef,FEq undef,FEq undef,FEq undef,FEq undef,FEq undef,FEq undef,FEq undef,FEq undef,FEq undef,FEq undef,FEq undef,FEq undef,FEq undef,FEq (.bool true),FEq (.bool true),FEq (.bool true),FEq undef,FEq undef,FEq undef,FEq undef,FEq undef,FEq undef,FEq undef,FEq undef,FEq undef,FEq undef,FEq undef,FEq undef,FEq undef,FEq undef,FEq undef,FEq undef,FEq undef,FEq undef,FEq undef,FEq undef,FEq undef]->Stable [] F:=by repeat first|exact st_nil|refine st_eq ?_
         refine wp_skip2H hst tbl5Jobs7 (fun _ w'=>Below w6.heap.size w6 w') 98 47 46 [some 51,some 52,some 53,some 54,some 55,some 56,some 57,some 58,some 59,some 60,some 61,some 62,some 63,some 64,some 65,some 66,some 67,some 68,some 69,some 70,some 71,some 72,some 73,some 74,some 75,some 76,some 77,some 78,some 79,some 80,some 81,some 82,some 83,some 84,some 85,some 86,some 87,some 88,some 89,some 90,some 91,some 92,some 93,some 94,some 95,some 96] _ [7,8,9,10,11,12,13,14,15,16,17,18,19,20,21,25,26,27,28,29,30,31,32,33,34,35,36,37,38,39,40,41,42,43,44,45] [(1,true),(24,true),(6,true)] ?h0 ?hop ?hend
         case h0=>exact (Below.refl _ _).drew
         case hop =>
          refine ⟨⟨⟨⟨⟨⟨⟨⟨⟨⟨⟨⟨⟨⟨⟨⟨⟨⟨⟨⟨⟨⟨⟨⟨⟨⟨⟨⟨⟨⟨⟨⟨⟨⟨⟨⟨⟨⟨⟨⟨⟨⟨⟨⟨⟨⟨trivial,?_⟩,?_⟩,?_⟩,?_⟩,?_⟩,?_⟩,?_⟩,?_⟩,?_⟩,?_⟩,?_⟩,?_⟩,?_⟩,?_⟩,?_⟩,?_⟩,?_⟩,?_⟩,?_⟩,?_⟩,?_⟩,?_⟩,?_⟩,?_⟩,?_⟩,?_⟩,?_⟩,?_⟩,?_⟩,?_⟩,?_⟩,?_⟩,?_⟩,?_⟩,?_⟩,?_⟩,?_⟩,?_⟩,?_⟩,?_⟩,?_⟩,?_⟩,?_⟩,?_⟩,?_⟩,?_⟩
          all_goals first|exact .inl (by decide)|skip
          ·exact .inr (Owes.k0 98 [(3,.bool true)])
          ·exact .inr (Owes.k1 98 51 0)
          ·exact .inr (Owes.k0G 98 [(10,.pointer (some ⟨bj,0,none⟩))])
          ·refine .inr (Owes.qG 98 (fun u=>[(53,u 2)]) fun u w' hI hR=>?_);dsimp only [frm,List.foldl,List.replicate,List.set];obtain ⟨_,hI⟩:=hI;have k2:=keep_cell hI D2;have k3:=keep_cell hI D3;have k4:=keep_cell hI D4;have e2:u 2=_:=hR 2 (by decide);rw [e2];clear hI hst hR;go_wp2;exact ⟨rfl,_,rfl,rfl,rfl⟩
          ·refine .inr (Owes.mkG _ _ rfl rfl (fun _ _ h=>by cases h) fun u m w' hm hI hR=>⟨⟨(frm 98 [(54,u 3)]).toArray,[]⟩,rfl,fun d hd=>by cases hd;exact frm_lt (by decide),?_⟩);dsimp only [frm,List.foldl,List.replicate,List.set];have e3:u 3=_:=hR 3 (by decide);rw [e3];clear e3;have GD6:=Lib.hid (SlR.below intR_fits GD5.out hI);have HI:=Lib.hid hI;clear hI hR;go_wp2_with fail
           refine (sRspOk_any ⟨ji,jc,jd⟩ _ df _ GD6.out).mono ?_;rw [HRk.out];rintro e w5 ⟨rfl,b5⟩;have HS5:=Lib.hid (facts_stable hst (b5.chg []));have HI5:=Lib.hid (HI.out.trans (b5.mono HI.out.size));clear b5 hst;go_wp2;exact ⟨rfl,_,rfl,rfl,HI5.out,HS5.out⟩
          ·exact .inr (Owes.k1G 98 55 4)
          ·exact .inr (Owes.k1G 98 56 5)
          ·exact .inr (Owes.k2G 98 57 6 72 21)
          ·exact .inr (Owes.k2 98 52 1 73 22)
          ·exact .inr (Owes.k1 98 74 23)
         case hend =>
          intro u w' hI hR;simp only [setAll,List.set_cons_zero,List.set_cons_succ];have e24:u 24=_:=hR 24 (by decide);rw [e24];clear e24;have HB7:=Lib.hid (HB6.out.trans (hI.mono HB6.out.size));have HB17:=Lib.hid (HB16.out.trans (hI.mono HB16.out.size));clear hR hst hI;go_wp2;go_ret;exact ⟨ret_bool (jobs_no1 hL HNo.out).symm,HB7.out⟩
        ·cases b1
         ·have HNo:Hid (jobGood c asked true l[k]=false):=Lib.hid (by rw [HJ.out,HFit.out,HCm.out];rfl);go_upto_region 7 with fail
          have hst:∀ F,F∈[FEq (.bool true),FEq (.bool true),FEq (.pointer (some ⟨bj,2,none⟩)),FEq (.agg #[.int .i64 ji,.int .i64 jc,.slice dva dvn dvc]),FEq (.bool true),FEq (.bool false),FEq (.bool false),FEq (.pointer (some ⟨bj,2,none⟩)),FEq (.pointer (some ⟨bj,2,none⟩)),FEq (.int .i64 ji),FEq (.pointer (some ⟨w.heap.size,2,none⟩)),FEq (.slice (some ⟨pb,po,none⟩) pn pc),FEq (.pointer (some ⟨bj,0,none⟩)),FEq (.int .i64 (uu:Int)),FEq (.pointer (some ⟨pb,po+uu,none⟩)),FEq (.slice (some ⟨rb,ro,none⟩) rn rc),FEq (.pointer (some ⟨bj,1,none⟩)),FEq (.int .i64 (ii:Int)),FEq (.pointer (some ⟨rb,ro+ii*7,none⟩)),FEq (.pointer (some ⟨rb,ro+ii*7,none⟩)),FEq (.int .i64 rid),FEq (.bool true),FEq (.bool true),FEq (.bool true),FEq (.bool true),FEq undef,FEq undef,FEq undef,FEq undef,FEq undef,FEq undef,FEq undef,FEq undef,FEq undef,FEq undef,FEq undef,FEq undef,FEq undef,FEq undef,FEq undef,FEq undef,FEq undef,FEq undef,FEq undef,FEq undef,FEq undef]->Stable [] F:=by repeat first|exact st_nil|refine st_eq ?_
          refine wp_skip2H hst tbl5Jobs7 (fun _ w'=>Below w6.heap.size w6 w') 98 47 46 [some 51,some 52,some 53,some 54,some 55,some 56,some 57,some 58,some 59,some 60,some 61,some 62,some 63,some 64,some 65,some 66,some 67,some 68,some 69,some 70,some 71,some 72,some 73,some 74,some 75,some 76,some 77,some 78,some 79,some 80,some 81,some 82,some 83,some 84,some 85,some 86,some 87,some 88,some 89,some 90,some 91,some 92,some 93,some 94,some 95,some 96] _ [25,26,27,28,29,30,31,32,33,34,35,36,37,38,39,40,41,42,43,44,45] [(1,true),(24,true),(6,false)] ?h0 ?hop ?hend
          case h0=>exact (Below.refl _ _).drew
          case hop =>
           refine ⟨⟨⟨⟨⟨⟨⟨⟨⟨⟨⟨⟨⟨⟨⟨⟨⟨⟨⟨⟨⟨⟨⟨⟨⟨⟨⟨⟨⟨⟨⟨⟨⟨⟨⟨⟨⟨⟨⟨⟨⟨⟨⟨⟨⟨⟨trivial,?_⟩,?_⟩,?_⟩,?_⟩,?_⟩,?_⟩,?_⟩,?_⟩,?_⟩,?_⟩,?_⟩,?_⟩,?_⟩,?_⟩,?_⟩,?_⟩,?_⟩,?_⟩,?_⟩,?_⟩,?_⟩,?_⟩,?_⟩,?_⟩,?_⟩,?_⟩,?_⟩,?_⟩,?_⟩,?_⟩,?_⟩,?_⟩,?_⟩,?_⟩,?_⟩,?_⟩,?_⟩,?_⟩,?_⟩,?_⟩,?_⟩,?_⟩,?_⟩,?_⟩,?_⟩,?_⟩
           all_goals first|exact .inl (by decide)|skip
           ·exact .inr (Owes.k0 98 [(3,.bool true)])
           ·exact .inr (Owes.k1 98 51 0)
           ·exact .inr (Owes.k0G 98 [(10,.pointer (some ⟨bj,0,none⟩))])
           ·refine .inr (Owes.qG 98 (fun u=>[(53,u 2)]) fun u w' hI hR=>?_);dsimp only [frm,List.foldl,List.replicate,List.set];obtain ⟨_,hI⟩:=hI;have k2:=keep_cell hI D2;have k3:=keep_cell hI D3;have k4:=keep_cell hI D4;have e2:u 2=_:=hR 2 (by decide);rw [e2];clear hI hst hR;go_wp2;exact ⟨rfl,_,rfl,rfl,rfl⟩
           ·refine .inr (Owes.mkG _ _ rfl rfl (fun _ _ h=>by cases h) fun u m w' hm hI hR=>⟨⟨(frm 98 [(54,u 3)]).toArray,[]⟩,rfl,fun d hd=>by cases hd;exact frm_lt (by decide),?_⟩);dsimp only [frm,List.foldl,List.replicate,List.set];have e3:u 3=_:=hR 3 (by decide);rw [e3];clear e3;have GD6:=Lib.hid (SlR.below intR_fits GD5.out hI);have HI:=Lib.hid hI;clear hI hR;go_wp2_with fail
            refine (sRspOk_any ⟨ji,jc,jd⟩ _ df _ GD6.out).mono ?_;rw [HRk.out];rintro e w5 ⟨rfl,b5⟩;have HS5:=Lib.hid (facts_stable hst (b5.chg []));have HI5:=Lib.hid (HI.out.trans (b5.mono HI.out.size));clear b5 hst;go_wp2;exact ⟨rfl,_,rfl,rfl,HI5.out,HS5.out⟩
           ·exact .inr (Owes.k1G 98 55 4)
           ·exact .inr (Owes.k1G 98 56 5)
           ·exact .inr (Owes.k0G 98 [(10,.pointer (some ⟨bj,0,none⟩))])
           ·exact .inr (Owes.k1G 98 58 7)
           ·exact .inr (Owes.c1G 98 59 8 D2)
           ·exact .inr (Owes.k0G 98 [(4,.pointer (some ⟨w.heap.size,0,none⟩))])
           ·exact .inr (Owes.c1G 98 61 10 X2)
           ·exact .inr (Owes.k0G 98 [(10,.pointer (some ⟨bj,0,none⟩))])
           ·exact .inr (Owes.c1G 98 63 12 D0)
           ·exact .inr (Owes.k2G 98 62 11 64 13)
           ·exact .inr (Owes.c1G 98 65 14 Y0)
           ·exact .inr (Owes.k0G 98 [(10,.pointer (some ⟨bj,0,none⟩))])
           ·exact .inr (Owes.c1G 98 67 16 D1)
           ·exact .inr (Owes.k2G 98 66 15 68 17)
           ·exact .inr (Owes.k1G 98 69 18)
           ·exact .inr (Owes.c1G 98 70 19 Z0)
           ·exact .inr (Owes.k2G 98 60 9 71 20)
           ·exact .inr (Owes.k2G 98 57 6 72 21)
           ·exact .inr (Owes.k2 98 52 1 73 22)
           ·exact .inr (Owes.k1 98 74 23)
          case hend =>
           intro u w' hI hR;simp only [setAll,List.set_cons_zero,List.set_cons_succ];have e24:u 24=_:=hR 24 (by decide);rw [e24];clear e24;have HB7:=Lib.hid (HB6.out.trans (hI.mono HB6.out.size));have HB17:=Lib.hid (HB16.out.trans (hI.mono HB16.out.size));clear hR hst hI;go_wp2;go_ret;exact ⟨ret_bool (jobs_no1 hL HNo.out).symm,HB7.out⟩
         ·have HGood:Hid (jobGood c asked true l[k]=true):=Lib.hid (by rw [HJ.out,HFit.out,HCm.out];rfl);go_upto_region 7 with fail
          have hst:∀ F,F∈[FEq (.bool true),FEq (.bool true),FEq (.pointer (some ⟨bj,2,none⟩)),FEq (.agg #[.int .i64 ji,.int .i64 jc,.slice dva dvn dvc]),FEq (.bool true),FEq (.bool false),FEq (.bool false),FEq (.pointer (some ⟨bj,2,none⟩)),FEq (.pointer (some ⟨bj,2,none⟩)),FEq (.int .i64 ji),FEq (.pointer (some ⟨w.heap.size,2,none⟩)),FEq (.slice (some ⟨pb,po,none⟩) pn pc),FEq (.pointer (some ⟨bj,0,none⟩)),FEq (.int .i64 (uu:Int)),FEq (.pointer (some ⟨pb,po+uu,none⟩)),FEq (.slice (some ⟨rb,ro,none⟩) rn rc),FEq (.pointer (some ⟨bj,1,none⟩)),FEq (.int .i64 (ii:Int)),FEq (.pointer (some ⟨rb,ro+ii*7,none⟩)),FEq (.pointer (some ⟨rb,ro+ii*7,none⟩)),FEq (.int .i64 rid),FEq (.bool false),FEq (.bool false),FEq (.bool false),FEq (.bool false),FEq (.bool true),FEq (.bool false),FEq (.bool false),FEq undef,FEq undef,FEq undef,FEq undef,FEq undef,FEq undef,FEq undef,FEq undef,FEq undef,FEq undef,FEq undef,FEq undef,FEq undef,FEq undef,FEq undef,FEq undef,FEq undef,FEq (.bool false)]->Stable [] F:=by repeat first|exact st_nil|refine st_eq ?_
          refine wp_skip2H hst tbl5Jobs7 (fun _ w'=>Below w6.heap.size w6 w') 98 47 46 [some 51,some 52,some 53,some 54,some 55,some 56,some 57,some 58,some 59,some 60,some 61,some 62,some 63,some 64,some 65,some 66,some 67,some 68,some 69,some 70,some 71,some 72,some 73,some 74,some 75,some 76,some 77,some 78,some 79,some 80,some 81,some 82,some 83,some 84,some 85,some 86,some 87,some 88,some 89,some 90,some 91,some 92,some 93,some 94,some 95,some 96] _ [28,29,30,31,32,33,34,35,36,37,38,39,40,41,42,43,44] [(1,true),(24,false),(27,false),(6,false)] ?h0 ?hop ?hend
          case h0=>exact (Below.refl _ _).drew
          case hop =>
           refine ⟨⟨⟨⟨⟨⟨⟨⟨⟨⟨⟨⟨⟨⟨⟨⟨⟨⟨⟨⟨⟨⟨⟨⟨⟨⟨⟨⟨⟨⟨⟨⟨⟨⟨⟨⟨⟨⟨⟨⟨⟨⟨⟨⟨⟨⟨trivial,?_⟩,?_⟩,?_⟩,?_⟩,?_⟩,?_⟩,?_⟩,?_⟩,?_⟩,?_⟩,?_⟩,?_⟩,?_⟩,?_⟩,?_⟩,?_⟩,?_⟩,?_⟩,?_⟩,?_⟩,?_⟩,?_⟩,?_⟩,?_⟩,?_⟩,?_⟩,?_⟩,?_⟩,?_⟩,?_⟩,?_⟩,?_⟩,?_⟩,?_⟩,?_⟩,?_⟩,?_⟩,?_⟩,?_⟩,?_⟩,?_⟩,?_⟩,?_⟩,?_⟩,?_⟩,?_⟩
           all_goals first|exact .inl (by decide)|skip
           ·exact .inr (Owes.k0 98 [(3,.bool true)])
           ·exact .inr (Owes.k1 98 51 0)
           ·exact .inr (Owes.k0G 98 [(10,.pointer (some ⟨bj,0,none⟩))])
           ·refine .inr (Owes.qG 98 (fun u=>[(53,u 2)]) fun u w' hI hR=>?_);dsimp only [frm,List.foldl,List.replicate,List.set];obtain ⟨_,hI⟩:=hI;have k2:=keep_cell hI D2;have k3:=keep_cell hI D3;have k4:=keep_cell hI D4;have e2:u 2=_:=hR 2 (by decide);rw [e2];clear hI hst hR;go_wp2;exact ⟨rfl,_,rfl,rfl,rfl⟩
           ·refine .inr (Owes.mkG _ _ rfl rfl (fun _ _ h=>by cases h) fun u m w' hm hI hR=>⟨⟨(frm 98 [(54,u 3)]).toArray,[]⟩,rfl,fun d hd=>by cases hd;exact frm_lt (by decide),?_⟩);dsimp only [frm,List.foldl,List.replicate,List.set];have e3:u 3=_:=hR 3 (by decide);rw [e3];clear e3;have GD6:=Lib.hid (SlR.below intR_fits GD5.out hI);have HI:=Lib.hid hI;clear hI hR;go_wp2_with fail
            refine (sRspOk_any ⟨ji,jc,jd⟩ _ df _ GD6.out).mono ?_;rw [HRk.out];rintro e w5 ⟨rfl,b5⟩;have HS5:=Lib.hid (facts_stable hst (b5.chg []));have HI5:=Lib.hid (HI.out.trans (b5.mono HI.out.size));clear b5 hst;go_wp2;exact ⟨rfl,_,rfl,rfl,HI5.out,HS5.out⟩
           ·exact .inr (Owes.k1G 98 55 4)
           ·exact .inr (Owes.k1G 98 56 5)
           ·exact .inr (Owes.k0G 98 [(10,.pointer (some ⟨bj,0,none⟩))])
           ·exact .inr (Owes.k1G 98 58 7)
           ·exact .inr (Owes.c1G 98 59 8 D2)
           ·exact .inr (Owes.k0G 98 [(4,.pointer (some ⟨w.heap.size,0,none⟩))])
           ·exact .inr (Owes.c1G 98 61 10 X2)
           ·exact .inr (Owes.k0G 98 [(10,.pointer (some ⟨bj,0,none⟩))])
           ·exact .inr (Owes.c1G 98 63 12 D0)
           ·exact .inr (Owes.k2G 98 62 11 64 13)
           ·exact .inr (Owes.c1G 98 65 14 Y0)
           ·exact .inr (Owes.k0G 98 [(10,.pointer (some ⟨bj,0,none⟩))])
           ·exact .inr (Owes.c1G 98 67 16 D1)
           ·exact .inr (Owes.k2G 98 66 15 68 17)
           ·exact .inr (Owes.k1G 98 69 18)
           ·exact .inr (Owes.c1G 98 70 19 Z0)
           ·exact .inr (Owes.k2G 98 60 9 71 20)
           ·exact .inr (Owes.k2G 98 57 6 72 21)
           ·exact .inr (Owes.k2 98 52 1 73 22)
           ·exact .inr (Owes.k1 98 74 23)
           ·exact .inr (Owes.k0G 98 [(3,.bool true)])
           ·exact .inr (Owes.k1G 98 76 25)
           ·exact .inr (Owes.k1G 98 77 26)
           ·exact .inr (Owes.k2G 98 78 27 95 44)
          case hend =>
           intro u w' hI hR;simp only [setAll,List.set_cons_zero,List.set_cons_succ];have e24:u 24=_:=hR 24 (by decide);have e45:u 45=_:=hR 45 (by decide);rw [e24,e45];clear e24 e45;have HB7:=Lib.hid (HB6.out.trans (hI.mono HB6.out.size));have HB17:=Lib.hid (HB16.out.trans (hI.mono HB16.out.size));clear hR hst hI;go_wp2
           go_roundw
           case rel=>exact ⟨k+1,by omega,by go_num,(fun j h hj=>by
            by_cases e:j=k
            ·subst e;exact HGood.out
            ·exact HG.out j h (by omega)),(by have:=HK0.out;subst this;exact RiseTo.one l),HB7.out,HB17.out⟩
           case measure=>simp [intOf];omega
     ·obtain ⟨km,hkm⟩:∃ z:Nat,k=z+1:=⟨k - 1,by omega⟩;have hpos:decide (0<(k:Int))=true:=decide_eq_true (by omega);have hposN:decide (0<k)=true:=decide_eq_true (by omega);have hL0:km<l.length:=by omega
      have hkmn:(km:Int)<(n:Int):=by omega
      have Gm:=Lib.hid (SlR.below jobR_fits G.out b14);obtain ⟨lb',lo',pv,pf,e,-,-,-,⟨p0,p1,p2,p3,p4⟩,-⟩:=jobs_at Gm.out hL0;cases e;have HJ0:Hid (l[k - 1]'(Nat.lt_of_le_of_lt (Nat.sub_le _ _) hL)=l[km]):=Lib.hid (by congr 1;omega);obtain ⟨jp,hjp⟩:∃ z,l[km]=z:=⟨_,rfl⟩;rw [hjp] at p0 p1 p2 p3 HJ0;have HKM:=Lib.hid hkm;have hk1:0<k:=by omega
      have HK1:=Lib.hid hk1;obtain ⟨bf,hbf⟩:∃ z,jobBefore jp ⟨uu,ii,⟨ji,jc,jd⟩⟩=z:=⟨_,rfl⟩;have HBf:=Lib.hid hbf;clear b14 hb1 hk0 hjp hkm hbf hk1 Gm;cases bf
      ·clear X2 Y0 Z0;have hst:∀ F,F∈[FEq (.pointer (some ⟨bj,0,none⟩)),FEq (.int .i64 (uu:Int)),FEq (.bool true),FEq (.bool false),FEq (.bool false),FEq (.pointer (some ⟨bj,1,none⟩)),FEq (.int .i64 (ii:Int)),FEq (.slice (some ⟨ab,ao,none⟩) an ac),FEq (.pointer (some ⟨bj,0,none⟩)),FEq (.int .i64 (uu:Int)),FEq (.pointer (some ⟨ab,ao+uu,none⟩)),FEq (.int .i64 au),FEq (.int .i64 (au - 1)),FEq (.bool true),FEq (.bool false),FEq (.bool false),FEq (.bool false),FEq (.int .i64 (k:Int)),FEq (.bool true),FEq (.bool true),FEq (.slice (some ⟨lb,lo,none⟩) n cap),FEq (.int .i64 (k:Int)),FEq (.int .i64 (km:Int)),FEq (.pointer (some ⟨lb,lo+km*5,none⟩)),FEq (.agg #[.int .i64 jp.who,.int .i64 jp.n,.int .i64 jp.rsp.id,.int .i64 jp.rsp.code,pv]),FEq (.agg #[.int .i64 (uu:Int),.int .i64 (ii:Int),.int .i64 ji,.int .i64 jc,.slice dva dvn dvc]),FEq (.bool false),FEq (.bool true),FEq (.bool true)]->Stable [] F:=by repeat first|exact st_nil|refine st_eq ?_
       refine wp_tailH hst tbl5Jobs5 (fun _ w'=>Below w4.heap.size w4 w') 98 30 29 [some 21,some 22,some 23,some 24,some 25,some 26,some 27,some 28,some 29,some 30,some 31,some 32,some 33,some 34,some 35,some 36,some 37,some 38,some 39,some 40,some 41,some 42,some 43,some 44,some 45,some 46,some 47,some 48,some 49] _ [(16,false),(19,true),(4,false)] ?h0 ?hop ?hend
       case h0=>exact (Below.refl _ _).drew
       case hop =>
        refine ⟨⟨⟨⟨⟨⟨⟨⟨⟨⟨⟨⟨⟨⟨⟨⟨⟨⟨⟨⟨⟨⟨⟨⟨⟨⟨⟨⟨⟨trivial,?_⟩,?_⟩,?_⟩,?_⟩,?_⟩,?_⟩,?_⟩,?_⟩,?_⟩,?_⟩,?_⟩,?_⟩,?_⟩,?_⟩,?_⟩,?_⟩,?_⟩,?_⟩,?_⟩,?_⟩,?_⟩,?_⟩,?_⟩,?_⟩,?_⟩,?_⟩,?_⟩,?_⟩,?_⟩
        ·exact Owes.k0 98 [(10,.pointer (some ⟨bj,0,none⟩))]
        ·exact Owes.c1 98 21 0 D0
        ·refine Owes.mk _ rfl rfl (fun _ _ h=>by cases h) fun u m w' hm hI hR=>⟨⟨(frm 98 [(22,u 1)]).toArray,[]⟩,rfl,fun d hd=>by cases hd;exact frm_lt (by decide),?_⟩;dsimp only [frm,List.foldl,List.replicate,List.set];have e1:u 1=_:=hR 1 (by decide);rw [e1];clear e1;have HI:=Lib.hid hI;clear hI hst;go_wp2_with fail
         refine (l1In_v HWho.out _).mono ?_;rintro e w5 ⟨rfl,rfl⟩;go_wp2;exact ⟨rfl,_,rfl,rfl,HI.out,fun _ _ h=>h⟩
        ·exact Owes.k1 98 23 2
        ·exact Owes.k1 98 24 3
        ·exact Owes.k0G 98 [(10,.pointer (some ⟨bj,0,none⟩))]
        ·exact Owes.c1G 98 26 5 D1
        ·exact Owes.k0G 98 [(1,.slice (some ⟨ab,ao,none⟩) an ac)]
        ·exact Owes.k0G 98 [(10,.pointer (some ⟨bj,0,none⟩))]
        ·exact Owes.c1G 98 29 8 D0
        ·exact Owes.k2G 98 28 7 30 9
        ·exact Owes.c1G 98 31 10 A0
        ·refine Owes.mkG _ _ rfl rfl (fun _ _ h=>by cases h) fun u m w' hm hI hR=>⟨⟨(frm 98 [(32,u 11)]).toArray,[]⟩,rfl,fun d hd=>by cases hd;exact frm_lt (by decide),?_⟩;dsimp only [frm,List.foldl,List.replicate,List.set];have e11:u 11=_:=hR 11 (by decide);rw [e11];clear e11;have HI:=Lib.hid hI;clear hI hst hR;go_wp2;exact ⟨rfl,_,rfl,(by show _=_;go_num),HI.out,fun _ _ h=>h⟩
        ·refine Owes.mkG _ _ rfl rfl (fun _ _ h=>by cases h) fun u m w' hm hI hR=>⟨⟨(frm 98 [(27,u 6),(33,u 12)]).toArray,[]⟩,rfl,fun d hd=>by cases hd;exact frm_lt (by decide),?_⟩;dsimp only [frm,List.foldl,List.replicate,List.set];have e6:u 6=_:=hR 6 (by decide);have e12:u 12=_:=hR 12 (by decide);rw [e6,e12];clear e6 e12;have HI:=Lib.hid hI;clear hI hst;go_wp2_with fail
         refine (l1In_v HN.out _).mono ?_;rintro e w5 ⟨rfl,rfl⟩;go_wp2;exact ⟨rfl,_,rfl,rfl,HI.out,fun _ _ h=>h⟩
        ·exact Owes.k1G 98 34 13
        ·exact Owes.k2 98 25 4 35 14
        ·exact Owes.k1 98 36 15
        ·exact Owes.k0G 98 [(9,.int .i64 (k:Int))]
        ·exact Owes.k1G 98 38 17
        ·exact Owes.k1G 98 39 18
        ·exact Owes.k0G 98 [(2,.slice (some ⟨lb,lo,none⟩) n cap)]
        ·exact Owes.k0G 98 [(9,.int .i64 (k:Int))]
        ·refine Owes.mkG _ _ rfl rfl (fun _ _ h=>by cases h) fun u m w' hm hI hR=>⟨⟨(frm 98 [(42,u 21)]).toArray,[]⟩,rfl,fun d hd=>by cases hd;exact frm_lt (by decide),?_⟩;dsimp only [frm,List.foldl,List.replicate,List.set];have e21:u 21=_:=hR 21 (by decide);rw [e21];clear e21;have HI:=Lib.hid hI;clear hI hst hR;go_wp2;exact ⟨rfl,_,rfl,(by have:=HKM.out;subst this;show _=_;go_num),HI.out,fun _ _ h=>h⟩
        ·exact Owes.k2G 98 41 20 43 22
        ·refine Owes.qG 98 (fun u=>[(44,u 23)]) fun u w' hI hR=>?_;dsimp only [frm,List.foldl,List.replicate,List.set];obtain ⟨_,hI⟩:=hI;have k6:=keep_cell hI p0;have k7:=keep_cell hI p1;have k8:=keep_cell hI p2;have k9:=keep_cell hI p3;have k10:=keep_cell hI p4;have e23:u 23=_:=hR 23 (by decide);rw [e23];clear hI hst hR;go_wp2;exact ⟨rfl,_,rfl,rfl,rfl⟩
        ·refine Owes.qG 98 (fun u=>[(10,.pointer (some ⟨bj,0,none⟩))]) fun u w' hI hR=>?_;dsimp only [frm,List.foldl,List.replicate,List.set];obtain ⟨_,hI⟩:=hI;have k0:=keep_cell hI D0;have k1:=keep_cell hI D1;have k2:=keep_cell hI D2;have k3:=keep_cell hI D3;have k4:=keep_cell hI D4;clear hI hst hR;go_wp2;exact ⟨rfl,_,rfl,rfl,rfl⟩
        ·refine Owes.mkG _ _ rfl rfl (fun _ _ h=>by cases h) fun u m w' hm hI hR=>⟨⟨(frm 98 [(45,u 24),(46,u 25)]).toArray,[]⟩,rfl,fun d hd=>by cases hd;exact frm_lt (by decide),?_⟩;dsimp only [frm,List.foldl,List.replicate,List.set];have e24:u 24=_:=hR 24 (by decide);have e25:u 25=_:=hR 25 (by decide);rw [e24,e25];clear e24 e25;have HI:=Lib.hid hI;clear hI hR;go_wp2_with fail
         refine (l5Before_any jp ⟨uu,ii,⟨ji,jc,jd⟩⟩ _ _ _).mono ?_;rw [HBf.out];rintro e w5 ⟨rfl,b5⟩;have HS5:=Lib.hid (facts_stable hst (b5.chg []));have HI5:=Lib.hid (HI.out.trans (b5.mono HI.out.size));clear b5 hst;go_wp2;exact ⟨rfl,_,rfl,rfl,HI5.out,HS5.out⟩
        ·exact Owes.k1G 98 47 26
        ·exact Owes.k2G 98 40 19 48 27
       case hend =>
        intro u w' hI hR;simp only [setAll,List.set_cons_zero,List.set_cons_succ];have e16:u 16=_:=hR 16 (by decide);have e28:u 28=_:=hR 28 (by decide);rw [e16,e28];clear e16 e28;have HB5:=Lib.hid (B4.out.trans (hI.mono B4.out.size));clear D0 D1 D2 D3 D4 A0 p0 p1 p2 p3 p4;clear hR hst hI;go_wp2;go_ret;exact ⟨ret_bool (jobs_no2 (rise_no hL HK1.out (by rw [HJ0.out,HJ.out];exact HBf.out))).symm,HB5.out⟩
      ·clear hL0;have hst:∀ F,F∈[FEq (.pointer (some ⟨bj,0,none⟩)),FEq (.int .i64 (uu:Int)),FEq (.bool true),FEq (.bool false),FEq (.bool false),FEq (.pointer (some ⟨bj,1,none⟩)),FEq (.int .i64 (ii:Int)),FEq (.slice (some ⟨ab,ao,none⟩) an ac),FEq (.pointer (some ⟨bj,0,none⟩)),FEq (.int .i64 (uu:Int)),FEq (.pointer (some ⟨ab,ao+uu,none⟩)),FEq (.int .i64 au),FEq (.int .i64 (au - 1)),FEq (.bool true),FEq (.bool false),FEq (.bool false),FEq (.bool false),FEq (.int .i64 (k:Int)),FEq (.bool true),FEq (.bool true),FEq (.slice (some ⟨lb,lo,none⟩) n cap),FEq (.int .i64 (k:Int)),FEq (.int .i64 (km:Int)),FEq (.pointer (some ⟨lb,lo+km*5,none⟩)),FEq (.agg #[.int .i64 jp.who,.int .i64 jp.n,.int .i64 jp.rsp.id,.int .i64 jp.rsp.code,pv]),FEq (.agg #[.int .i64 (uu:Int),.int .i64 (ii:Int),.int .i64 ji,.int .i64 jc,.slice dva dvn dvc]),FEq (.bool true),FEq (.bool false),FEq (.bool false)]->Stable [] F:=by repeat first|exact st_nil|refine st_eq ?_
       refine wp_tailH hst tbl5Jobs5 (fun _ w'=>Below w4.heap.size w4 w') 98 30 29 [some 21,some 22,some 23,some 24,some 25,some 26,some 27,some 28,some 29,some 30,some 31,some 32,some 33,some 34,some 35,some 36,some 37,some 38,some 39,some 40,some 41,some 42,some 43,some 44,some 45,some 46,some 47,some 48,some 49] _ [(16,false),(19,true),(4,false)] ?h0 ?hop ?hend
       case h0=>exact (Below.refl _ _).drew
       case hop =>
        refine ⟨⟨⟨⟨⟨⟨⟨⟨⟨⟨⟨⟨⟨⟨⟨⟨⟨⟨⟨⟨⟨⟨⟨⟨⟨⟨⟨⟨⟨trivial,?_⟩,?_⟩,?_⟩,?_⟩,?_⟩,?_⟩,?_⟩,?_⟩,?_⟩,?_⟩,?_⟩,?_⟩,?_⟩,?_⟩,?_⟩,?_⟩,?_⟩,?_⟩,?_⟩,?_⟩,?_⟩,?_⟩,?_⟩,?_⟩,?_⟩,?_⟩,?_⟩,?_⟩,?_⟩
        ·exact Owes.k0 98 [(10,.pointer (some ⟨bj,0,none⟩))]
        ·exact Owes.c1 98 21 0 D0
        ·refine Owes.mk _ rfl rfl (fun _ _ h=>by cases h) fun u m w' hm hI hR=>⟨⟨(frm 98 [(22,u 1)]).toArray,[]⟩,rfl,fun d hd=>by cases hd;exact frm_lt (by decide),?_⟩;dsimp only [frm,List.foldl,List.replicate,List.set];have e1:u 1=_:=hR 1 (by decide);rw [e1];clear e1;have HI:=Lib.hid hI;clear hI hst;go_wp2_with fail
         refine (l1In_v HWho.out _).mono ?_;rintro e w5 ⟨rfl,rfl⟩;go_wp2;exact ⟨rfl,_,rfl,rfl,HI.out,fun _ _ h=>h⟩
        ·exact Owes.k1 98 23 2
        ·exact Owes.k1 98 24 3
        ·exact Owes.k0G 98 [(10,.pointer (some ⟨bj,0,none⟩))]
        ·exact Owes.c1G 98 26 5 D1
        ·exact Owes.k0G 98 [(1,.slice (some ⟨ab,ao,none⟩) an ac)]
        ·exact Owes.k0G 98 [(10,.pointer (some ⟨bj,0,none⟩))]
        ·exact Owes.c1G 98 29 8 D0
        ·exact Owes.k2G 98 28 7 30 9
        ·exact Owes.c1G 98 31 10 A0
        ·refine Owes.mkG _ _ rfl rfl (fun _ _ h=>by cases h) fun u m w' hm hI hR=>⟨⟨(frm 98 [(32,u 11)]).toArray,[]⟩,rfl,fun d hd=>by cases hd;exact frm_lt (by decide),?_⟩;dsimp only [frm,List.foldl,List.replicate,List.set];have e11:u 11=_:=hR 11 (by decide);rw [e11];clear e11;have HI:=Lib.hid hI;clear hI hst hR;go_wp2;exact ⟨rfl,_,rfl,(by show _=_;go_num),HI.out,fun _ _ h=>h⟩
        ·refine Owes.mkG _ _ rfl rfl (fun _ _ h=>by cases h) fun u m w' hm hI hR=>⟨⟨(frm 98 [(27,u 6),(33,u 12)]).toArray,[]⟩,rfl,fun d hd=>by cases hd;exact frm_lt (by decide),?_⟩;dsimp only [frm,List.foldl,List.replicate,List.set];have e6:u 6=_:=hR 6 (by decide);have e12:u 12=_:=hR 12 (by decide);rw [e6,e12];clear e6 e12;have HI:=Lib.hid hI;clear hI hst;go_wp2_with fail
         refine (l1In_v HN.out _).mono ?_;rintro e w5 ⟨rfl,rfl⟩;go_wp2;exact ⟨rfl,_,rfl,rfl,HI.out,fun _ _ h=>h⟩
        ·exact Owes.k1G 98 34 13
        ·exact Owes.k2 98 25 4 35 14
        ·exact Owes.k1 98 36 15
        ·exact Owes.k0G 98 [(9,.int .i64 (k:Int))]
        ·exact Owes.k1G 98 38 17
        ·exact Owes.k1G 98 39 18
        ·exact Owes.k0G 98 [(2,.slice (some ⟨lb,lo,none⟩) n cap)]
        ·exact Owes.k0G 98 [(9,.int .i64 (k:Int))]
        ·refine Owes.mkG _ _ rfl rfl (fun _ _ h=>by cases h) fun u m w' hm hI hR=>⟨⟨(frm 98 [(42,u 21)]).toArray,[]⟩,rfl,fun d hd=>by cases hd;exact frm_lt (by decide),?_⟩;dsimp only [frm,List.foldl,List.replicate,List.set];have e21:u 21=_:=hR 21 (by decide);rw [e21];clear e21;have HI:=Lib.hid hI;clear hI hst hR;go_wp2;exact ⟨rfl,_,rfl,(by have:=HKM.out;subst this;show _=_;go_num),HI.out,fun _ _ h=>h⟩
        ·exact Owes.k2G 98 41 20 43 22
        ·refine Owes.qG 98 (fun u=>[(44,u 23)]) fun u w' hI hR=>?_;dsimp only [frm,List.foldl,List.replicate,List.set];obtain ⟨_,hI⟩:=hI;have k6:=keep_cell hI p0;have k7:=keep_cell hI p1;have k8:=keep_cell hI p2;have k9:=keep_cell hI p3;have k10:=keep_cell hI p4;have e23:u 23=_:=hR 23 (by decide);rw [e23];clear hI hst hR;go_wp2;exact ⟨rfl,_,rfl,rfl,rfl⟩
        ·refine Owes.qG 98 (fun u=>[(10,.pointer (some ⟨bj,0,none⟩))]) fun u w' hI hR=>?_;dsimp only [frm,List.foldl,List.replicate,List.set];obtain ⟨_,hI⟩:=hI;have k0:=keep_cell hI D0;have k1:=keep_cell hI D1;have k2:=keep_cell hI D2;have k3:=keep_cell hI D3;have k4:=keep_cell hI D4;clear hI hst hR;go_wp2;exact ⟨rfl,_,rfl,rfl,rfl⟩
        ·refine Owes.mkG _ _ rfl rfl (fun _ _ h=>by cases h) fun u m w' hm hI hR=>⟨⟨(frm 98 [(45,u 24),(46,u 25)]).toArray,[]⟩,rfl,fun d hd=>by cases hd;exact frm_lt (by decide),?_⟩;dsimp only [frm,List.foldl,List.replicate,List.set];have e24:u 24=_:=hR 24 (by decide);have e25:u 25=_:=hR 25 (by decide);rw [e24,e25];clear e24 e25;have HI:=Lib.hid hI;clear hI hR;go_wp2_with fail
         refine (l5Before_any jp ⟨uu,ii,⟨ji,jc,jd⟩⟩ _ _ _).mono ?_;rw [HBf.out];rintro e w5 ⟨rfl,b5⟩;have HS5:=Lib.hid (facts_stable hst (b5.chg []));have HI5:=Lib.hid (HI.out.trans (b5.mono HI.out.size));clear b5 hst;go_wp2;exact ⟨rfl,_,rfl,rfl,HI5.out,HS5.out⟩
        ·exact Owes.k1G 98 47 26
        ·exact Owes.k2G 98 40 19 48 27
       case hend =>
        intro u w' hI hR;simp only [setAll,List.set_cons_zero,List.set_cons_succ];have e16:u 16=_:=hR 16 (by decide);have e28:u 28=_:=hR 28 (by decide);rw [e16,e28];clear e16 e28;clear p0 p1 p2 p3 p4;have hB5:=hI;have D0n:=keep_cell hB5 D0;have D1n:=keep_cell hB5 D1;have D2n:=keep_cell hB5 D2;have D3n:=keep_cell hB5 D3;have D4n:=keep_cell hB5 D4;have X2n:=keep_cell hB5 X2;have Y0n:=keep_cell hB5 Y0;have Z0n:=keep_cell hB5 Z0;have HB6:=Lib.hid (B4.out.trans (hB5.mono B4.out.size));have HB16:=Lib.hid (B14.out.trans (hB5.mono B14.out.size));have GD5:=Lib.hid (SlR.below intR_fits GD4.out hB5);clear hR hst hI hB5 D0 D1 D2 D3 D4 X2 Y0 Z0 A0;have D0:=D0n;clear D0n;have D1:=D1n;clear D1n;have D2:=D2n;clear D2n;have D3:=D3n;clear D3n;have D4:=D4n;clear D4n;have X2:=X2n;clear X2n;have Y0:=Y0n;clear Y0n;have Z0:=Z0n;clear Z0n;obtain ⟨w6,rfl⟩:∃ z,z=w':=⟨_,rfl⟩;cases dn
        ·obtain ⟨b0,h0⟩:∃ z,(ji == 0)=z:=⟨_,rfl⟩;obtain ⟨b1,h1⟩:∃ z,(jc == 0)=z:=⟨_,rfl⟩;obtain ⟨b2,h2⟩:∃ z,((dvn:Int) == 0)=z:=⟨_,rfl⟩;have H0:=Lib.hid h0;have H1:=Lib.hid h1;have H2:=Lib.hid h2;have t0:(ji != 0) = !b0:=by rw [<- h0];rfl
         have t1:(jc != 0) = !b1:=by rw [<- h1];rfl
         have t2:((dvn:Int) != 0) = !b2:=by rw [<- h2];rfl
         have HCm:Hid (jobCame c false ⟨uu,ii,⟨ji,jc,jd⟩⟩=(b0 && (b1 && b2))):=Lib.hid (by unfold jobCame rspNone;rw [<- h0,<- h1,<- h2,HDv.out];rfl);clear h0 h1 h2;cases b0
         ·have HNo:Hid (jobGood c asked false l[k]=false):=Lib.hid (by rw [HJ.out,HFit.out,HCm.out];rfl);go_upto_region 7 with fail
          have hst:∀ F,F∈[FEq (.bool false),FEq (.bool false),FEq undef,FEq undef,FEq undef,FEq undef,FEq undef,FEq undef,FEq undef,FEq undef,FEq undef,FEq undef,FEq undef,FEq undef,FEq undef,FEq undef,FEq undef,FEq undef,FEq undef,FEq undef,FEq undef,FEq undef,FEq undef,FEq (.bool false),FEq (.bool false),FEq (.bool false),FEq (.bool true),FEq (.bool true),FEq (.pointer (some ⟨bj,2,none⟩)),FEq (.pointer (some ⟨bj,2,none⟩)),FEq (.int .i64 ji),FEq (.bool true),FEq (.bool true),FEq undef,FEq undef,FEq undef,FEq undef,FEq (.bool true),FEq (.bool true),FEq undef,FEq undef,FEq undef,FEq undef,FEq undef,FEq (.bool true),FEq (.bool true)]->Stable [] F:=by repeat first|exact st_nil|refine st_eq ?_
          refine wp_skip2H hst tbl5Jobs7 (fun _ w'=>Below w6.heap.size w6 w') 98 47 46 [some 51,some 52,some 53,some 54,some 55,some 56,some 57,some 58,some 59,some 60,some 61,some 62,some 63,some 64,some 65,some 66,some 67,some 68,some 69,some 70,some 71,some 72,some 73,some 74,some 75,some 76,some 77,some 78,some 79,some 80,some 81,some 82,some 83,some 84,some 85,some 86,some 87,some 88,some 89,some 90,some 91,some 92,some 93,some 94,some 95,some 96] _ [2,3,4,5,6,7,8,9,10,11,12,13,14,15,16,17,18,19,20,21,22,33,34,35,36,39,40,41,42,43] [(1,false),(24,false),(27,true),(32,true),(38,true)] ?h0 ?hop ?hend
          case h0=>exact (Below.refl _ _).drew
          case hop =>
           refine ⟨⟨⟨⟨⟨⟨⟨⟨⟨⟨⟨⟨⟨⟨⟨⟨⟨⟨⟨⟨⟨⟨⟨⟨⟨⟨⟨⟨⟨⟨⟨⟨⟨⟨⟨⟨⟨⟨⟨⟨⟨⟨⟨⟨⟨⟨trivial,?_⟩,?_⟩,?_⟩,?_⟩,?_⟩,?_⟩,?_⟩,?_⟩,?_⟩,?_⟩,?_⟩,?_⟩,?_⟩,?_⟩,?_⟩,?_⟩,?_⟩,?_⟩,?_⟩,?_⟩,?_⟩,?_⟩,?_⟩,?_⟩,?_⟩,?_⟩,?_⟩,?_⟩,?_⟩,?_⟩,?_⟩,?_⟩,?_⟩,?_⟩,?_⟩,?_⟩,?_⟩,?_⟩,?_⟩,?_⟩,?_⟩,?_⟩,?_⟩,?_⟩,?_⟩,?_⟩
           all_goals first|exact .inl (by decide)|skip
           ·exact .inr (Owes.k0 98 [(3,.bool false)])
           ·exact .inr (Owes.k1 98 51 0)
           ·exact .inr (Owes.k2 98 52 1 73 22)
           ·exact .inr (Owes.k1 98 74 23)
           ·exact .inr (Owes.k0G 98 [(3,.bool false)])
           ·exact .inr (Owes.k1G 98 76 25)
           ·exact .inr (Owes.k1G 98 77 26)
           ·exact .inr (Owes.k0G 98 [(10,.pointer (some ⟨bj,0,none⟩))])
           ·exact .inr (Owes.k1G 98 79 28)
           ·exact .inr (Owes.c1G 98 80 29 D2)
           ·exact .inr (Owes.k1G 98 81 30)
           ·exact .inr (Owes.k1G 98 82 31)
           ·exact .inr (Owes.k2G 98 83 32 87 36)
           ·exact .inr (Owes.k1G 98 88 37)
           ·exact .inr (Owes.k2G 98 89 38 94 43)
           ·exact .inr (Owes.k2G 98 78 27 95 44)
          case hend =>
           intro u w' hI hR;simp only [setAll,List.set_cons_zero,List.set_cons_succ];have e24:u 24=_:=hR 24 (by decide);have e45:u 45=_:=hR 45 (by decide);rw [e24,e45];clear e24 e45;have HB7:=Lib.hid (HB6.out.trans (hI.mono HB6.out.size));have HB17:=Lib.hid (HB16.out.trans (hI.mono HB16.out.size));clear hR hst hI;go_wp2;go_ret;exact ⟨ret_bool (jobs_no1 hL HNo.out).symm,HB7.out⟩
         ·cases b1
          ·have HNo:Hid (jobGood c asked false l[k]=false):=Lib.hid (by rw [HJ.out,HFit.out,HCm.out];rfl);go_upto_region 7 with fail
           have hst:∀ F,F∈[FEq (.bool false),FEq (.bool false),FEq undef,FEq undef,FEq undef,FEq undef,FEq undef,FEq undef,FEq undef,FEq undef,FEq undef,FEq undef,FEq undef,FEq undef,FEq undef,FEq undef,FEq undef,FEq undef,FEq undef,FEq undef,FEq undef,FEq undef,FEq undef,FEq (.bool false),FEq (.bool false),FEq (.bool false),FEq (.bool true),FEq (.bool true),FEq (.pointer (some ⟨bj,2,none⟩)),FEq (.pointer (some ⟨bj,2,none⟩)),FEq (.int .i64 ji),FEq (.bool false),FEq (.bool false),FEq (.pointer (some ⟨bj,2,none⟩)),FEq (.pointer (some ⟨bj,3,none⟩)),FEq (.int .i64 jc),FEq (.bool true),FEq (.bool true),FEq (.bool true),FEq undef,FEq undef,FEq undef,FEq undef,FEq undef,FEq (.bool true),FEq (.bool true)]->Stable [] F:=by repeat first|exact st_nil|refine st_eq ?_
           refine wp_skip2H hst tbl5Jobs7 (fun _ w'=>Below w6.heap.size w6 w') 98 47 46 [some 51,some 52,some 53,some 54,some 55,some 56,some 57,some 58,some 59,some 60,some 61,some 62,some 63,some 64,some 65,some 66,some 67,some 68,some 69,some 70,some 71,some 72,some 73,some 74,some 75,some 76,some 77,some 78,some 79,some 80,some 81,some 82,some 83,some 84,some 85,some 86,some 87,some 88,some 89,some 90,some 91,some 92,some 93,some 94,some 95,some 96] _ [2,3,4,5,6,7,8,9,10,11,12,13,14,15,16,17,18,19,20,21,22,39,40,41,42,43] [(1,false),(24,false),(27,true),(32,false),(38,true)] ?h0 ?hop ?hend
           case h0=>exact (Below.refl _ _).drew
           case hop =>
            refine ⟨⟨⟨⟨⟨⟨⟨⟨⟨⟨⟨⟨⟨⟨⟨⟨⟨⟨⟨⟨⟨⟨⟨⟨⟨⟨⟨⟨⟨⟨⟨⟨⟨⟨⟨⟨⟨⟨⟨⟨⟨⟨⟨⟨⟨⟨trivial,?_⟩,?_⟩,?_⟩,?_⟩,?_⟩,?_⟩,?_⟩,?_⟩,?_⟩,?_⟩,?_⟩,?_⟩,?_⟩,?_⟩,?_⟩,?_⟩,?_⟩,?_⟩,?_⟩,?_⟩,?_⟩,?_⟩,?_⟩,?_⟩,?_⟩,?_⟩,?_⟩,?_⟩,?_⟩,?_⟩,?_⟩,?_⟩,?_⟩,?_⟩,?_⟩,?_⟩,?_⟩,?_⟩,?_⟩,?_⟩,?_⟩,?_⟩,?_⟩,?_⟩,?_⟩,?_⟩
            all_goals first|exact .inl (by decide)|skip
            ·exact .inr (Owes.k0 98 [(3,.bool false)])
            ·exact .inr (Owes.k1 98 51 0)
            ·exact .inr (Owes.k2 98 52 1 73 22)
            ·exact .inr (Owes.k1 98 74 23)
            ·exact .inr (Owes.k0G 98 [(3,.bool false)])
            ·exact .inr (Owes.k1G 98 76 25)
            ·exact .inr (Owes.k1G 98 77 26)
            ·exact .inr (Owes.k0G 98 [(10,.pointer (some ⟨bj,0,none⟩))])
            ·exact .inr (Owes.k1G 98 79 28)
            ·exact .inr (Owes.c1G 98 80 29 D2)
            ·exact .inr (Owes.k1G 98 81 30)
            ·exact .inr (Owes.k1G 98 82 31)
            ·exact .inr (Owes.k0G 98 [(10,.pointer (some ⟨bj,0,none⟩))])
            ·exact .inr (Owes.k1G 98 84 33)
            ·exact .inr (Owes.c1G 98 85 34 D3)
            ·exact .inr (Owes.k1G 98 86 35)
            ·exact .inr (Owes.k2G 98 83 32 87 36)
            ·exact .inr (Owes.k1G 98 88 37)
            ·exact .inr (Owes.k2G 98 89 38 94 43)
            ·exact .inr (Owes.k2G 98 78 27 95 44)
           case hend =>
            intro u w' hI hR;simp only [setAll,List.set_cons_zero,List.set_cons_succ];have e24:u 24=_:=hR 24 (by decide);have e45:u 45=_:=hR 45 (by decide);rw [e24,e45];clear e24 e45;have HB7:=Lib.hid (HB6.out.trans (hI.mono HB6.out.size));have HB17:=Lib.hid (HB16.out.trans (hI.mono HB16.out.size));clear hR hst hI;go_wp2;go_ret;exact ⟨ret_bool (jobs_no1 hL HNo.out).symm,HB7.out⟩
          ·cases b2
           ·have HNo:Hid (jobGood c asked false l[k]=false):=Lib.hid (by rw [HJ.out,HFit.out,HCm.out];rfl);go_upto_region 7 with fail
            have hst:∀ F,F∈[FEq (.bool false),FEq (.bool false),FEq undef,FEq undef,FEq undef,FEq undef,FEq undef,FEq undef,FEq undef,FEq undef,FEq undef,FEq undef,FEq undef,FEq undef,FEq undef,FEq undef,FEq undef,FEq undef,FEq undef,FEq undef,FEq undef,FEq undef,FEq undef,FEq (.bool false),FEq (.bool false),FEq (.bool false),FEq (.bool true),FEq (.bool true),FEq (.pointer (some ⟨bj,2,none⟩)),FEq (.pointer (some ⟨bj,2,none⟩)),FEq (.int .i64 ji),FEq (.bool false),FEq (.bool false),FEq (.pointer (some ⟨bj,2,none⟩)),FEq (.pointer (some ⟨bj,3,none⟩)),FEq (.int .i64 jc),FEq (.bool false),FEq (.bool false),FEq (.bool false),FEq (.pointer (some ⟨bj,2,none⟩)),FEq (.pointer (some ⟨bj,4,none⟩)),FEq (.slice dva dvn dvc),FEq (.int .i64 (dvn:Int)),FEq (.bool true),FEq (.bool true),FEq (.bool true)]->Stable [] F:=by repeat first|exact st_nil|refine st_eq ?_
            refine wp_skip2H hst tbl5Jobs7 (fun _ w'=>Below w6.heap.size w6 w') 98 47 46 [some 51,some 52,some 53,some 54,some 55,some 56,some 57,some 58,some 59,some 60,some 61,some 62,some 63,some 64,some 65,some 66,some 67,some 68,some 69,some 70,some 71,some 72,some 73,some 74,some 75,some 76,some 77,some 78,some 79,some 80,some 81,some 82,some 83,some 84,some 85,some 86,some 87,some 88,some 89,some 90,some 91,some 92,some 93,some 94,some 95,some 96] _ [2,3,4,5,6,7,8,9,10,11,12,13,14,15,16,17,18,19,20,21,22] [(1,false),(24,false),(27,true),(32,false),(38,false)] ?h0 ?hop ?hend
            case h0=>exact (Below.refl _ _).drew
            case hop =>
             refine ⟨⟨⟨⟨⟨⟨⟨⟨⟨⟨⟨⟨⟨⟨⟨⟨⟨⟨⟨⟨⟨⟨⟨⟨⟨⟨⟨⟨⟨⟨⟨⟨⟨⟨⟨⟨⟨⟨⟨⟨⟨⟨⟨⟨⟨⟨trivial,?_⟩,?_⟩,?_⟩,?_⟩,?_⟩,?_⟩,?_⟩,?_⟩,?_⟩,?_⟩,?_⟩,?_⟩,?_⟩,?_⟩,?_⟩,?_⟩,?_⟩,?_⟩,?_⟩,?_⟩,?_⟩,?_⟩,?_⟩,?_⟩,?_⟩,?_⟩,?_⟩,?_⟩,?_⟩,?_⟩,?_⟩,?_⟩,?_⟩,?_⟩,?_⟩,?_⟩,?_⟩,?_⟩,?_⟩,?_⟩,?_⟩,?_⟩,?_⟩,?_⟩,?_⟩,?_⟩
             all_goals first|exact .inl (by decide)|skip
             ·exact .inr (Owes.k0 98 [(3,.bool false)])
             ·exact .inr (Owes.k1 98 51 0)
             ·exact .inr (Owes.k2 98 52 1 73 22)
             ·exact .inr (Owes.k1 98 74 23)
             ·exact .inr (Owes.k0G 98 [(3,.bool false)])
             ·exact .inr (Owes.k1G 98 76 25)
             ·exact .inr (Owes.k1G 98 77 26)
             ·exact .inr (Owes.k0G 98 [(10,.pointer (some ⟨bj,0,none⟩))])
             ·exact .inr (Owes.k1G 98 79 28)
             ·exact .inr (Owes.c1G 98 80 29 D2)
             ·exact .inr (Owes.k1G 98 81 30)
             ·exact .inr (Owes.k1G 98 82 31)
             ·exact .inr (Owes.k0G 98 [(10,.pointer (some ⟨bj,0,none⟩))])
             ·exact .inr (Owes.k1G 98 84 33)
             ·exact .inr (Owes.c1G 98 85 34 D3)
             ·exact .inr (Owes.k1G 98 86 35)
             ·exact .inr (Owes.k2G 98 83 32 87 36)
             ·exact .inr (Owes.k1G 98 88 37)
             ·exact .inr (Owes.k0G 98 [(10,.pointer (some ⟨bj,0,none⟩))])
             ·exact .inr (Owes.k1G 98 90 39)
             ·exact .inr (Owes.c1G 98 91 40 D4)
             ·exact .inr (Owes.k1G 98 92 41)
             ·exact .inr (Owes.k1G 98 93 42)
             ·exact .inr (Owes.k2G 98 89 38 94 43)
             ·exact .inr (Owes.k2G 98 78 27 95 44)
            case hend =>
             intro u w' hI hR;simp only [setAll,List.set_cons_zero,List.set_cons_succ];have e24:u 24=_:=hR 24 (by decide);have e45:u 45=_:=hR 45 (by decide);rw [e24,e45];clear e24 e45;have HB7:=Lib.hid (HB6.out.trans (hI.mono HB6.out.size));have HB17:=Lib.hid (HB16.out.trans (hI.mono HB16.out.size));clear hR hst hI;go_wp2;go_ret;exact ⟨ret_bool (jobs_no1 hL HNo.out).symm,HB7.out⟩
           ·have HGood:Hid (jobGood c asked false l[k]=true):=Lib.hid (by rw [HJ.out,HFit.out,HCm.out];rfl);go_upto_region 7 with fail
            have hst:∀ F,F∈[FEq (.bool false),FEq (.bool false),FEq undef,FEq undef,FEq undef,FEq undef,FEq undef,FEq undef,FEq undef,FEq undef,FEq undef,FEq undef,FEq undef,FEq undef,FEq undef,FEq undef,FEq undef,FEq undef,FEq undef,FEq undef,FEq undef,FEq undef,FEq undef,FEq (.bool false),FEq (.bool false),FEq (.bool false),FEq (.bool true),FEq (.bool true),FEq (.pointer (some ⟨bj,2,none⟩)),FEq (.pointer (some ⟨bj,2,none⟩)),FEq (.int .i64 ji),FEq (.bool false),FEq (.bool false),FEq (.pointer (some ⟨bj,2,none⟩)),FEq (.pointer (some ⟨bj,3,none⟩)),FEq (.int .i64 jc),FEq (.bool false),FEq (.bool false),FEq (.bool false),FEq (.pointer (some ⟨bj,2,none⟩)),FEq (.pointer (some ⟨bj,4,none⟩)),FEq (.slice dva dvn dvc),FEq (.int .i64 (dvn:Int)),FEq (.bool false),FEq (.bool false),FEq (.bool false)]->Stable [] F:=by repeat first|exact st_nil|refine st_eq ?_
            refine wp_skip2H hst tbl5Jobs7 (fun _ w'=>Below w6.heap.size w6 w') 98 47 46 [some 51,some 52,some 53,some 54,some 55,some 56,some 57,some 58,some 59,some 60,some 61,some 62,some 63,some 64,some 65,some 66,some 67,some 68,some 69,some 70,some 71,some 72,some 73,some 74,some 75,some 76,some 77,some 78,some 79,some 80,some 81,some 82,some 83,some 84,some 85,some 86,some 87,some 88,some 89,some 90,some 91,some 92,some 93,some 94,some 95,some 96] _ [2,3,4,5,6,7,8,9,10,11,12,13,14,15,16,17,18,19,20,21,22] [(1,false),(24,false),(27,true),(32,false),(38,false)] ?h0 ?hop ?hend
            case h0=>exact (Below.refl _ _).drew
            case hop =>
             refine ⟨⟨⟨⟨⟨⟨⟨⟨⟨⟨⟨⟨⟨⟨⟨⟨⟨⟨⟨⟨⟨⟨⟨⟨⟨⟨⟨⟨⟨⟨⟨⟨⟨⟨⟨⟨⟨⟨⟨⟨⟨⟨⟨⟨⟨⟨trivial,?_⟩,?_⟩,?_⟩,?_⟩,?_⟩,?_⟩,?_⟩,?_⟩,?_⟩,?_⟩,?_⟩,?_⟩,?_⟩,?_⟩,?_⟩,?_⟩,?_⟩,?_⟩,?_⟩,?_⟩,?_⟩,?_⟩,?_⟩,?_⟩,?_⟩,?_⟩,?_⟩,?_⟩,?_⟩,?_⟩,?_⟩,?_⟩,?_⟩,?_⟩,?_⟩,?_⟩,?_⟩,?_⟩,?_⟩,?_⟩,?_⟩,?_⟩,?_⟩,?_⟩,?_⟩,?_⟩
             all_goals first|exact .inl (by decide)|skip
             ·exact .inr (Owes.k0 98 [(3,.bool false)])
             ·exact .inr (Owes.k1 98 51 0)
             ·exact .inr (Owes.k2 98 52 1 73 22)
             ·exact .inr (Owes.k1 98 74 23)
             ·exact .inr (Owes.k0G 98 [(3,.bool false)])
             ·exact .inr (Owes.k1G 98 76 25)
             ·exact .inr (Owes.k1G 98 77 26)
             ·exact .inr (Owes.k0G 98 [(10,.pointer (some ⟨bj,0,none⟩))])
             ·exact .inr (Owes.k1G 98 79 28)
             ·exact .inr (Owes.c1G 98 80 29 D2)
             ·exact .inr (Owes.k1G 98 81 30)
             ·exact .inr (Owes.k1G 98 82 31)
             ·exact .inr (Owes.k0G 98 [(10,.pointer (some ⟨bj,0,none⟩))])
             ·exact .inr (Owes.k1G 98 84 33)
             ·exact .inr (Owes.c1G 98 85 34 D3)
             ·exact .inr (Owes.k1G 98 86 35)
             ·exact .inr (Owes.k2G 98 83 32 87 36)
             ·exact .inr (Owes.k1G 98 88 37)
             ·exact .inr (Owes.k0G 98 [(10,.pointer (some ⟨bj,0,none⟩))])
             ·exact .inr (Owes.k1G 98 90 39)
             ·exact .inr (Owes.c1G 98 91 40 D4)
             ·exact .inr (Owes.k1G 98 92 41)
             ·exact .inr (Owes.k1G 98 93 42)
             ·exact .inr (Owes.k2G 98 89 38 94 43)
             ·exact .inr (Owes.k2G 98 78 27 95 44)
            case hend =>
             intro u w' hI hR;simp only [setAll,List.set_cons_zero,List.set_cons_succ];have e24:u 24=_:=hR 24 (by decide);have e45:u 45=_:=hR 45 (by decide);rw [e24,e45];clear e24 e45;have HB7:=Lib.hid (HB6.out.trans (hI.mono HB6.out.size));have HB17:=Lib.hid (HB16.out.trans (hI.mono HB16.out.size));clear hR hst hI;go_wp2
             go_roundw
             case rel=>exact ⟨k+1,by omega,by go_num,(fun j h hj=>by
              by_cases e:j=k
              ·subst e;exact HGood.out
              ·exact HG.out j h (by omega)),(HR.out.step hL (fun _=>by rw [HJ0.out,HJ.out];exact HBf.out)),HB7.out,HB17.out⟩
             case measure=>simp [intOf];omega
        ·obtain ⟨b0,h0⟩:∃ z,rspOk ⟨ji,jc,jd⟩=z:=⟨_,rfl⟩;obtain ⟨b1,h1⟩:∃ z,(ji == rid)=z:=⟨_,rfl⟩;have HRk:=Lib.hid h0;have t1:(ji != rid) = !b1:=by rw [<- h1];rfl
         have HCm:Hid (jobCame c true ⟨uu,ii,⟨ji,jc,jd⟩⟩=(b0 && b1)):=Lib.hid (by unfold jobCame;rw [HId.out,<- h0,<- h1];rfl);have H1:=Lib.hid h1;clear h0 h1;cases b0
         ·have HNo:Hid (jobGood c asked true l[k]=false):=Lib.hid (by rw [HJ.out,HFit.out,HCm.out];rfl);go_upto_region 7 with fail
          have hst:∀ F,F∈[FEq (.bool true),FEq (.bool true),FEq (.pointer (some ⟨bj,2,none⟩)),FEq (.agg #[.int .i64 ji,.int .i64 jc,.slice dva dvn dvc]),FEq (.bool false),FEq (.bool true),FEq (.bool true),FEq undef,FEq undef,FEq undef,FEq undef,FEq undef,FEq undef,FEq undef,FEq undef,FEq undef,FEq undef,FEq undef,FEq undef,FEq undef,FEq undef,FEq undef,FEq (.bool true),FEq (.bool true),FEq (.bool true),FEq undef,FEq undef,FEq undef,FEq undef,FEq undef,FEq undef,FEq undef,FEq undef,FEq undef,FEq undef,FEq undef,FEq undef,FEq undef,FEq undef,FEq undef,FEq undef,FEq undef,FEq undef,FEq undef,FEq undef,FEq undef]->Stable [] F:=by repeat first|exact st_nil|refine st_eq ?_
          refine wp_skip2H hst tbl5Jobs7 (fun _ w'=>Below w6.heap.size w6 w') 98 47 46 [some 51,some 52,some 53,some 54,some 55,some 56,some 57,some 58,some 59,some 60,some 61,some 62,some 63,some 64,some 65,some 66,some 67,some 68,some 69,some 70,some 71,some 72,some 73,some 74,some 75,some 76,some 77,some 78,some 79,some 80,some 81,some 82,some 83,some 84,some 85,some 86,some 87,some 88,some 89,some 90,some 91,some 92,some 93,some 94,some 95,some 96] _ [7,8,9,10,11,12,13,14,15,16,17,18,19,20,21,25,26,27,28,29,30,31,32,33,34,35,36,37,38,39,40,41,42,43,44,45] [(1,true),(24,true),(6,true)] ?h0 ?hop ?hend
          case h0=>exact (Below.refl _ _).drew
          case hop =>
           refine ⟨⟨⟨⟨⟨⟨⟨⟨⟨⟨⟨⟨⟨⟨⟨⟨⟨⟨⟨⟨⟨⟨⟨⟨⟨⟨⟨⟨⟨⟨⟨⟨⟨⟨⟨⟨⟨⟨⟨⟨⟨⟨⟨⟨⟨⟨trivial,?_⟩,?_⟩,?_⟩,?_⟩,?_⟩,?_⟩,?_⟩,?_⟩,?_⟩,?_⟩,?_⟩,?_⟩,?_⟩,?_⟩,?_⟩,?_⟩,?_⟩,?_⟩,?_⟩,?_⟩,?_⟩,?_⟩,?_⟩,?_⟩,?_⟩,?_⟩,?_⟩,?_⟩,?_⟩,?_⟩,?_⟩,?_⟩,?_⟩,?_⟩,?_⟩,?_⟩,?_⟩,?_⟩,?_⟩,?_⟩,?_⟩,?_⟩,?_⟩,?_⟩,?_⟩,?_⟩
           all_goals first|exact .inl (by decide)|skip
           ·exact .inr (Owes.k0 98 [(3,.bool true)])
           ·exact .inr (Owes.k1 98 51 0)
           ·exact .inr (Owes.k0G 98 [(10,.pointer (some ⟨bj,0,none⟩))])
           ·refine .inr (Owes.qG 98 (fun u=>[(53,u 2)]) fun u w' hI hR=>?_);dsimp only [frm,List.foldl,List.replicate,List.set];obtain ⟨_,hI⟩:=hI;have k2:=keep_cell hI D2;have k3:=keep_cell hI D3;have k4:=keep_cell hI D4;have e2:u 2=_:=hR 2 (by decide);rw [e2];clear hI hst hR;go_wp2;exact ⟨rfl,_,rfl,rfl,rfl⟩
           ·refine .inr (Owes.mkG _ _ rfl rfl (fun _ _ h=>by cases h) fun u m w' hm hI hR=>⟨⟨(frm 98 [(54,u 3)]).toArray,[]⟩,rfl,fun d hd=>by cases hd;exact frm_lt (by decide),?_⟩);dsimp only [frm,List.foldl,List.replicate,List.set];have e3:u 3=_:=hR 3 (by decide);rw [e3];clear e3;have GD6:=Lib.hid (SlR.below intR_fits GD5.out hI);have HI:=Lib.hid hI;clear hI hR;go_wp2_with fail
            refine (sRspOk_any ⟨ji,jc,jd⟩ _ df _ GD6.out).mono ?_;rw [HRk.out];rintro e w5 ⟨rfl,b5⟩;have HS5:=Lib.hid (facts_stable hst (b5.chg []));have HI5:=Lib.hid (HI.out.trans (b5.mono HI.out.size));clear b5 hst;go_wp2;exact ⟨rfl,_,rfl,rfl,HI5.out,HS5.out⟩
           ·exact .inr (Owes.k1G 98 55 4)
           ·exact .inr (Owes.k1G 98 56 5)
           ·exact .inr (Owes.k2G 98 57 6 72 21)
           ·exact .inr (Owes.k2 98 52 1 73 22)
           ·exact .inr (Owes.k1 98 74 23)
          case hend =>
           intro u w' hI hR;simp only [setAll,List.set_cons_zero,List.set_cons_succ];have e24:u 24=_:=hR 24 (by decide);rw [e24];clear e24;have HB7:=Lib.hid (HB6.out.trans (hI.mono HB6.out.size));have HB17:=Lib.hid (HB16.out.trans (hI.mono HB16.out.size));clear hR hst hI;go_wp2;go_ret;exact ⟨ret_bool (jobs_no1 hL HNo.out).symm,HB7.out⟩
         ·cases b1
          ·have HNo:Hid (jobGood c asked true l[k]=false):=Lib.hid (by rw [HJ.out,HFit.out,HCm.out];rfl);go_upto_region 7 with fail
           have hst:∀ F,F∈[FEq (.bool true),FEq (.bool true),FEq (.pointer (some ⟨bj,2,none⟩)),FEq (.agg #[.int .i64 ji,.int .i64 jc,.slice dva dvn dvc]),FEq (.bool true),FEq (.bool false),FEq (.bool false),FEq (.pointer (some ⟨bj,2,none⟩)),FEq (.pointer (some ⟨bj,2,none⟩)),FEq (.int .i64 ji),FEq (.pointer (some ⟨w.heap.size,2,none⟩)),FEq (.slice (some ⟨pb,po,none⟩) pn pc),FEq (.pointer (some ⟨bj,0,none⟩)),FEq (.int .i64 (uu:Int)),FEq (.pointer (some ⟨pb,po+uu,none⟩)),FEq (.slice (some ⟨rb,ro,none⟩) rn rc),FEq (.pointer (some ⟨bj,1,none⟩)),FEq (.int .i64 (ii:Int)),FEq (.pointer (some ⟨rb,ro+ii*7,none⟩)),FEq (.pointer (some ⟨rb,ro+ii*7,none⟩)),FEq (.int .i64 rid),FEq (.bool true),FEq (.bool true),FEq (.bool true),FEq (.bool true),FEq undef,FEq undef,FEq undef,FEq undef,FEq undef,FEq undef,FEq undef,FEq undef,FEq undef,FEq undef,FEq undef,FEq undef,FEq undef,FEq undef,FEq undef,FEq undef,FEq undef,FEq undef,FEq undef,FEq undef,FEq undef]->Stable [] F:=by repeat first|exact st_nil|refine st_eq ?_
           refine wp_skip2H hst tbl5Jobs7 (fun _ w'=>Below w6.heap.size w6 w') 98 47 46 [some 51,some 52,some 53,some 54,some 55,some 56,some 57,some 58,some 59,some 60,some 61,some 62,some 63,some 64,some 65,some 66,some 67,some 68,some 69,some 70,some 71,some 72,some 73,some 74,some 75,some 76,some 77,some 78,some 79,some 80,some 81,some 82,some 83,some 84,some 85,some 86,some 87,some 88,some 89,some 90,some 91,some 92,some 93,some 94,some 95,some 96] _ [25,26,27,28,29,30,31,32,33,34,35,36,37,38,39,40,41,42,43,44,45] [(1,true),(24,true),(6,false)] ?h0 ?hop ?hend
           case h0=>exact (Below.refl _ _).drew
           case hop =>
            refine ⟨⟨⟨⟨⟨⟨⟨⟨⟨⟨⟨⟨⟨⟨⟨⟨⟨⟨⟨⟨⟨⟨⟨⟨⟨⟨⟨⟨⟨⟨⟨⟨⟨⟨⟨⟨⟨⟨⟨⟨⟨⟨⟨⟨⟨⟨trivial,?_⟩,?_⟩,?_⟩,?_⟩,?_⟩,?_⟩,?_⟩,?_⟩,?_⟩,?_⟩,?_⟩,?_⟩,?_⟩,?_⟩,?_⟩,?_⟩,?_⟩,?_⟩,?_⟩,?_⟩,?_⟩,?_⟩,?_⟩,?_⟩,?_⟩,?_⟩,?_⟩,?_⟩,?_⟩,?_⟩,?_⟩,?_⟩,?_⟩,?_⟩,?_⟩,?_⟩,?_⟩,?_⟩,?_⟩,?_⟩,?_⟩,?_⟩,?_⟩,?_⟩,?_⟩,?_⟩
            all_goals first|exact .inl (by decide)|skip
            ·exact .inr (Owes.k0 98 [(3,.bool true)])
            ·exact .inr (Owes.k1 98 51 0)
            ·exact .inr (Owes.k0G 98 [(10,.pointer (some ⟨bj,0,none⟩))])
            ·refine .inr (Owes.qG 98 (fun u=>[(53,u 2)]) fun u w' hI hR=>?_);dsimp only [frm,List.foldl,List.replicate,List.set];obtain ⟨_,hI⟩:=hI;have k2:=keep_cell hI D2;have k3:=keep_cell hI D3;have k4:=keep_cell hI D4;have e2:u 2=_:=hR 2 (by decide);rw [e2];clear hI hst hR;go_wp2;exact ⟨rfl,_,rfl,rfl,rfl⟩
            ·refine .inr (Owes.mkG _ _ rfl rfl (fun _ _ h=>by cases h) fun u m w' hm hI hR=>⟨⟨(frm 98 [(54,u 3)]).toArray,[]⟩,rfl,fun d hd=>by cases hd;exact frm_lt (by decide),?_⟩);dsimp only [frm,List.foldl,List.replicate,List.set];have e3:u 3=_:=hR 3 (by decide);rw [e3];clear e3;have GD6:=Lib.hid (SlR.below intR_fits GD5.out hI);have HI:=Lib.hid hI;clear hI hR;go_wp2_with fail
             refine (sRspOk_any ⟨ji,jc,jd⟩ _ df _ GD6.out).mono ?_;rw [HRk.out];rintro e w5 ⟨rfl,b5⟩;have HS5:=Lib.hid (facts_stable hst (b5.chg []));have HI5:=Lib.hid (HI.out.trans (b5.mono HI.out.size));clear b5 hst;go_wp2;exact ⟨rfl,_,rfl,rfl,HI5.out,HS5.out⟩
            ·exact .inr (Owes.k1G 98 55 4)
            ·exact .inr (Owes.k1G 98 56 5)
            ·exact .inr (Owes.k0G 98 [(10,.pointer (some ⟨bj,0,none⟩))])
            ·exact .inr (Owes.k1G 98 58 7)
            ·exact .inr (Owes.c1G 98 59 8 D2)
            ·exact .inr (Owes.k0G 98 [(4,.pointer (some ⟨w.heap.size,0,none⟩))])
            ·exact .inr (Owes.c1G 98 61 10 X2)
            ·exact .inr (Owes.k0G 98 [(10,.pointer (some ⟨bj,0,none⟩))])
            ·exact .inr (Owes.c1G 98 63 12 D0)
            ·exact .inr (Owes.k2G 98 62 11 64 13)
            ·exact .inr (Owes.c1G 98 65 14 Y0)
            ·exact .inr (Owes.k0G 98 [(10,.pointer (some ⟨bj,0,none⟩))])
            ·exact .inr (Owes.c1G 98 67 16 D1)
            ·exact .inr (Owes.k2G 98 66 15 68 17)
            ·exact .inr (Owes.k1G 98 69 18)
            ·exact .inr (Owes.c1G 98 70 19 Z0)
            ·exact .inr (Owes.k2G 98 60 9 71 20)
            ·exact .inr (Owes.k2G 98 57 6 72 21)
            ·exact .inr (Owes.k2 98 52 1 73 22)
            ·exact .inr (Owes.k1 98 74 23)
           case hend =>
            intro u w' hI hR;simp only [setAll,List.set_cons_zero,List.set_cons_succ];have e24:u 24=_:=hR 24 (by decide);rw [e24];clear e24;have HB7:=Lib.hid (HB6.out.trans (hI.mono HB6.out.size));have HB17:=Lib.hid (HB16.out.trans (hI.mono HB16.out.size));clear hR hst hI;go_wp2;go_ret;exact ⟨ret_bool (jobs_no1 hL HNo.out).symm,HB7.out⟩
          ·have HGood:Hid (jobGood c asked true l[k]=true):=Lib.hid (by rw [HJ.out,HFit.out,HCm.out];rfl);go_upto_region 7 with fail
           have hst:∀ F,F∈[FEq (.bool true),FEq (.bool true),FEq (.pointer (some ⟨bj,2,none⟩)),FEq (.agg #[.int .i64 ji,.int .i64 jc,.slice dva dvn dvc]),FEq (.bool true),FEq (.bool false),FEq (.bool false),FEq (.pointer (some ⟨bj,2,none⟩)),FEq (.pointer (some ⟨bj,2,none⟩)),FEq (.int .i64 ji),FEq (.pointer (some ⟨w.heap.size,2,none⟩)),FEq (.slice (some ⟨pb,po,none⟩) pn pc),FEq (.pointer (some ⟨bj,0,none⟩)),FEq (.int .i64 (uu:Int)),FEq (.pointer (some ⟨pb,po+uu,none⟩)),FEq (.slice (some ⟨rb,ro,none⟩) rn rc),FEq (.pointer (some ⟨bj,1,none⟩)),FEq (.int .i64 (ii:Int)),FEq (.pointer (some ⟨rb,ro+ii*7,none⟩)),FEq (.pointer (some ⟨rb,ro+ii*7,none⟩)),FEq (.int .i64 rid),FEq (.bool false),FEq (.bool false),FEq (.bool false),FEq (.bool false),FEq (.bool true),FEq (.bool false),FEq (.bool false),FEq undef,FEq undef,FEq undef,FEq undef,FEq undef,FEq undef,FEq undef,FEq undef,FEq undef,FEq undef,FEq undef,FEq undef,FEq undef,FEq undef,FEq undef,FEq undef,FEq undef,FEq (.bool false)]->Stable [] F:=by repeat first|exact st_nil|refine st_eq ?_
           refine wp_skip2H hst tbl5Jobs7 (fun _ w'=>Below w6.heap.size w6 w') 98 47 46 [some 51,some 52,some 53,some 54,some 55,some 56,some 57,some 58,some 59,some 60,some 61,some 62,some 63,some 64,some 65,some 66,some 67,some 68,some 69,some 70,some 71,some 72,some 73,some 74,some 75,some 76,some 77,some 78,some 79,some 80,some 81,some 82,some 83,some 84,some 85,some 86,some 87,some 88,some 89,some 90,some 91,some 92,some 93,some 94,some 95,some 96] _ [28,29,30,31,32,33,34,35,36,37,38,39,40,41,42,43,44] [(1,true),(24,false),(27,false),(6,false)] ?h0 ?hop ?hend
           case h0=>exact (Below.refl _ _).drew
           case hop =>
            refine ⟨⟨⟨⟨⟨⟨⟨⟨⟨⟨⟨⟨⟨⟨⟨⟨⟨⟨⟨⟨⟨⟨⟨⟨⟨⟨⟨⟨⟨⟨⟨⟨⟨⟨⟨⟨⟨⟨⟨⟨⟨⟨⟨⟨⟨⟨trivial,?_⟩,?_⟩,?_⟩,?_⟩,?_⟩,?_⟩,?_⟩,?_⟩,?_⟩,?_⟩,?_⟩,?_⟩,?_⟩,?_⟩,?_⟩,?_⟩,?_⟩,?_⟩,?_⟩,?_⟩,?_⟩,?_⟩,?_⟩,?_⟩,?_⟩,?_⟩,?_⟩,?_⟩,?_⟩,?_⟩,?_⟩,?_⟩,?_⟩,?_⟩,?_⟩,?_⟩,?_⟩,?_⟩,?_⟩,?_⟩,?_⟩,?_⟩,?_⟩,?_⟩,?_⟩,?_⟩
            all_goals first|exact .inl (by decide)|skip
            ·exact .inr (Owes.k0 98 [(3,.bool true)])
            ·exact .inr (Owes.k1 98 51 0)
            ·exact .inr (Owes.k0G 98 [(10,.pointer (some ⟨bj,0,none⟩))])
            ·refine .inr (Owes.qG 98 (fun u=>[(53,u 2)]) fun u w' hI hR=>?_);dsimp only [frm,List.foldl,List.replicate,List.set];obtain ⟨_,hI⟩:=hI;have k2:=keep_cell hI D2;have k3:=keep_cell hI D3;have k4:=keep_cell hI D4;have e2:u 2=_:=hR 2 (by decide);rw [e2];clear hI hst hR;go_wp2;exact ⟨rfl,_,rfl,rfl,rfl⟩
            ·refine .inr (Owes.mkG _ _ rfl rfl (fun _ _ h=>by cases h) fun u m w' hm hI hR=>⟨⟨(frm 98 [(54,u 3)]).toArray,[]⟩,rfl,fun d hd=>by cases hd;exact frm_lt (by decide),?_⟩);dsimp only [frm,List.foldl,List.replicate,List.set];have e3:u 3=_:=hR 3 (by decide);rw [e3];clear e3;have GD6:=Lib.hid (SlR.below intR_fits GD5.out hI);have HI:=Lib.hid hI;clear hI hR;go_wp2_with fail
             refine (sRspOk_any ⟨ji,jc,jd⟩ _ df _ GD6.out).mono ?_;rw [HRk.out];rintro e w5 ⟨rfl,b5⟩;have HS5:=Lib.hid (facts_stable hst (b5.chg []));have HI5:=Lib.hid (HI.out.trans (b5.mono HI.out.size));clear b5 hst;go_wp2;exact ⟨rfl,_,rfl,rfl,HI5.out,HS5.out⟩
            ·exact .inr (Owes.k1G 98 55 4)
            ·exact .inr (Owes.k1G 98 56 5)
            ·exact .inr (Owes.k0G 98 [(10,.pointer (some ⟨bj,0,none⟩))])
            ·exact .inr (Owes.k1G 98 58 7)
            ·exact .inr (Owes.c1G 98 59 8 D2)
            ·exact .inr (Owes.k0G 98 [(4,.pointer (some ⟨w.heap.size,0,none⟩))])
            ·exact .inr (Owes.c1G 98 61 10 X2)
            ·exact .inr (Owes.k0G 98 [(10,.pointer (some ⟨bj,0,none⟩))])
            ·exact .inr (Owes.c1G 98 63 12 D0)
            ·exact .inr (Owes.k2G 98 62 11 64 13)
            ·exact .inr (Owes.c1G 98 65 14 Y0)
            ·exact .inr (Owes.k0G 98 [(10,.pointer (some ⟨bj,0,none⟩))])
            ·exact .inr (Owes.c1G 98 67 16 D1)
            ·exact .inr (Owes.k2G 98 66 15 68 17)
            ·exact .inr (Owes.k1G 98 69 18)
            ·exact .inr (Owes.c1G 98 70 19 Z0)
            ·exact .inr (Owes.k2G 98 60 9 71 20)
            ·exact .inr (Owes.k2G 98 57 6 72 21)
            ·exact .inr (Owes.k2 98 52 1 73 22)
            ·exact .inr (Owes.k1 98 74 23)
            ·exact .inr (Owes.k0G 98 [(3,.bool true)])
            ·exact .inr (Owes.k1G 98 76 25)
            ·exact .inr (Owes.k1G 98 77 26)
            ·exact .inr (Owes.k2G 98 78 27 95 44)
           case hend =>
            intro u w' hI hR;simp only [setAll,List.set_cons_zero,List.set_cons_succ];have e24:u 24=_:=hR 24 (by decide);have e45:u 45=_:=hR 45 (by decide);rw [e24,e45];clear e24 e45;have HB7:=Lib.hid (HB6.out.trans (hI.mono HB6.out.size));have HB17:=Lib.hid (HB16.out.trans (hI.mono HB16.out.size));clear hR hst hI;go_wp2
            go_roundw
            case rel=>exact ⟨k+1,by omega,by go_num,(fun j h hj=>by
             by_cases e:j=k
             ·subst e;exact HGood.out
             ·exact HG.out j h (by omega)),(HR.out.step hL (fun _=>by rw [HJ0.out,HJ.out];exact HBf.out)),HB7.out,HB17.out⟩
            case measure=>simp [intOf];omega
  ·go_wp2;go_ret;exact ⟨ret_bool (jobs_yes (fun j h=>HG.out j h (by rw [hn.out] at h;omega)) (rise_yes HR.out (by rw [hn.out];omega))).symm,HB.out⟩
end Go.Proofs.Ytmcjklicepaiaaa
