/-
 Texts of this claim laid together: TOk1 TOk2.
-/
import Derived.Test.YtmcjklicepaiaaaPk14
set_option linter.unusedVariables false
set_option linter.unusedSimpArgs false
namespace Go.Proofs.Ytmcjklicepaiaaa
def tbcompareJobs1:List (List Nat):=[[],[0],[],[2],[0,1,2,3],[],[5],[],[7],[0,1,2,3,4,5,6,7,8],[0,1,2,3,4,5,6,7,8,9],[0,1,2,3,4,5,6,7,8,9,10],[0,1,2,3,4,5,6,7,8,9,10,11]]
open Go.RowKit Go.ChangeShapes
def jobBefore (a b:Job):Bool:=decide (a.who<b.who) || (a.who == b.who && decide (a.n<b.n))
def isJob (who n:Int) (j:Job):Bool:=j.who == who && j.n == n
def jobAt (l:List Job) (who n:Int):Int:=idxOf (isJob who n) l
def rspNone (r:Rsp):Bool:=r.id == 0 && (r.code == 0 && r.data.length == 0)
def idAt (c:Bus) (who n:Int):Int:=((((c.progs[who.toNat]?).getD [])[n.toNat]?).map Req.id).getD 0
def cmpI (a b:Int):Int:=if a<b then -1 else if b<a then 1 else 0
def cmpJ (a b:Job):Int:=if cmpI a.who b.who=0 then cmpI a.n b.n else cmpI a.who b.who
theorem cmpJ_lt (a b:Job):decide (0<=cmpJ a b) = !jobBefore a b:=by
 have:decide (0<=cmpJ a b)=decide (¬ (jobBefore a b=true)):=by
  apply decide_eq_decide.2;unfold cmpJ cmpI jobBefore;simp only [Bool.or_eq_true,Bool.and_eq_true,decide_eq_true_eq,beq_iff_eq];constructor
  ·intro h
   repeat (split at h)
   all_goals omega
  ·intro h
   repeat split
   all_goals omega
 rw [this];cases jobBefore a b<;>rfl
theorem idAt_at {c:Bus} {k i:Nat} (hk:k<c.progs.length) (hi:i<c.progs[k].length):idAt c k i=c.progs[k][i].id:=by
 unfold idAt;simp [hk,hi]
set_option maxRecDepth 100000 in
theorem cmp_any (a b:Int) (w:World):Calls Try.prog 154 #[.int .i64 a,.int .i64 b] w fun e w'=>e = .returned (.int .i64 (cmpI a b))∧w'=w:=by
 have nan:∀ (a:Int) (w:World),Calls Try.prog 158 #[.int .i64 a] w fun e w'=>e = .returned (.bool false)∧w'=w:=by
  intro a w;go_enter Try.func158,Try.ntmps158
  go_wp2;go_ret;exact ⟨ret_bool (by simp),rfl⟩
 by_cases h1:a<b
 ·go_enter Try.func154,Try.ntmps154
  go_wp2_with (go_at_call 158;refine (nan _ _).mono ?_;rintro e w' ⟨rfl,rfl⟩)
  go_ret;exact ⟨ret_int (by unfold cmpI;(repeat split)<;>omega),rfl⟩
 ·by_cases h2:b<a
  ·go_enter Try.func154,Try.ntmps154
   go_wp2_with (go_at_call 158;refine (nan _ _).mono ?_;rintro e w' ⟨rfl,rfl⟩)
   go_ret;exact ⟨ret_int (by unfold cmpI;(repeat split)<;>omega),rfl⟩
  ·go_enter Try.func154,Try.ntmps154
   go_wp2_with (go_at_call 158;refine (nan _ _).mono ?_;rintro e w' ⟨rfl,rfl⟩)
   go_ret;exact ⟨ret_int (by unfold cmpI;(repeat split)<;>omega),rfl⟩
set_option maxRecDepth 100000 in
theorem or_any (b:Nat) (x y:Int) (w:World) (c0:w.cell? ⟨b,0,none⟩=some (.int .i64 x)) (c1:w.cell? ⟨b,1,none⟩=some (.int .i64 y)) :
 Calls Try.prog 153 #[.slice (some ⟨b,0,none⟩) 2 2] w fun e w'=>e = .returned (.int .i64 (if x=0 then y else x))∧w'=w:=by
 go_enter Try.func153,Try.ntmps153
 go_wp2_with fail
 go_loopw [8] (fun i wr=>∃ k:Nat,k<=2∧i = .int .i64 k∧(0<k->x=0)∧(1<k->y=0)∧wr=w) (fun i _=>2 - (intOf i).toNat)
 case atStart=>exact ⟨0,by omega,rfl,fun h=>absurd h (by omega),fun h=>absurd h (by omega),rfl⟩
 case round =>
  obtain ⟨k,hk,rfl,h1,h2,rfl⟩:=hrel;have hkk:k=0∨k=1∨k=2:=by omega
  rcases hkk with rfl|rfl|rfl
  ·by_cases hx:x=0
   ·subst hx;go_wp2
    go_roundw
    case rel=>exact ⟨1,by omega,rfl,by simp,by simp,by simp⟩
    case measure=>simp [intOf]
   ·have hx':(x != 0)=true:=by simpa using hx
    have HX:=Lib.hid hx;clear hx;go_wp2;go_ret;exact ⟨ret_int (by first|rfl|rw [if_neg HX.out]),rfl⟩
  ·have hx:=h1 (by omega);by_cases hy:y=0
   ·subst hy;go_wp2
    go_roundw
    case rel=>exact ⟨2,by omega,rfl,by simp [hx],by simp,by simp⟩
    case measure=>simp [intOf]
   ·have hy':(y != 0)=true:=by simpa using hy
    have HX:=Lib.hid hx;clear hy hx;go_wp2;go_ret;exact ⟨ret_int (by first|rfl|rw [if_pos HX.out]),rfl⟩
  ·have hx:=h1 (by omega);have hy:=h2 (by omega);go_wp2;go_ret;exact ⟨ret_int (by first|rfl|(rw [if_pos hx,hy])|simp [hx,hy]),rfl⟩
theorem two_jobs (w:World) (a b:Job) (va vb:Value) {w0:World} (hw0:w0=(w.alloc (.cells #[.int .i64 a.who,.int .i64 a.n,.int .i64 a.rsp.id,.int .i64 a.rsp.code,va] 64)).alloc (.cells #[.int .i64 b.who,.int .i64 b.n,.int .i64 b.rsp.id,.int .i64 b.rsp.code,vb] 64)) :
 Below w.heap.size w w0∧w0.cell? ⟨w.heap.size,0,none⟩=some (.int .i64 a.who)∧w0.cell? ⟨w.heap.size,1,none⟩=some (.int .i64 a.n)∧w0.cell? ⟨w.heap.size+1,0,none⟩=some (.int .i64 b.who)∧w0.cell? ⟨w.heap.size+1,1,none⟩=some (.int .i64 b.n):=by
 subst hw0;exact ⟨(below_alloc _ _).trans ((below_alloc _ _).mono (by simp)),alloc_keep (alloc1_new _ _ _ 0 rfl) _,alloc_keep (alloc1_new _ _ _ 1 rfl) _,alloc2_new _ _ _ _ _ 0 rfl,alloc2_new _ _ _ _ _ 1 rfl⟩
set_option maxRecDepth 100000 in
set_option maxHeartbeats 1600000 in
theorem compareJobs_any (a b:Job) (va vb:Value) (w:World) :
 Calls Try.prog 147 #[.agg #[.int .i64 a.who,.int .i64 a.n,.int .i64 a.rsp.id,.int .i64 a.rsp.code,va],.agg #[.int .i64 b.who,.int .i64 b.n,.int .i64 b.rsp.id,.int .i64 b.rsp.code,vb]] w fun e w'=>e = .returned (.int .i64 (cmpJ a b))∧Below w.heap.size w w':=by
 obtain ⟨w0,hw0⟩:∃ w0,w0=(w.alloc (.cells #[.int .i64 a.who,.int .i64 a.n,.int .i64 a.rsp.id,.int .i64 a.rsp.code,va] 64)).alloc (.cells #[.int .i64 b.who,.int .i64 b.n,.int .i64 b.rsp.id,.int .i64 b.rsp.code,vb] 64):=⟨_,rfl⟩;obtain ⟨hb,a0,a1,b0,b1⟩:=two_jobs w a b va vb hw0;have B:=Lib.hid hb;clear hb;go_enter Try.func147,Try.ntmps147
 go_upto_region 1 with fail
 rw [<- hw0];clear hw0;have hst:∀ F,F∈[FEq (.pointer (some ⟨w.heap.size,0,none⟩)),FEq (.int .i64 a.who),FEq (.pointer (some ⟨w.heap.size+1,0,none⟩)),FEq (.int .i64 b.who),FEq (.int .i64 (cmpI a.who b.who)),FEq (.pointer (some ⟨w.heap.size,1,none⟩)),FEq (.int .i64 a.n),FEq (.pointer (some ⟨w.heap.size+1,1,none⟩)),FEq (.int .i64 b.n),FEq (.int .i64 (cmpI a.n b.n))]->Stable [] F:=by repeat first|exact st_nil|refine st_eq ?_
 refine wp_tailH hst tbcompareJobs1 (fun _ w'=>Below w0.heap.size w0 w') 17 13 10 [some 5,some 6,some 7,some 8,some 9,some 10,some 11,some 12,some 13,some 14] _ [] ?h0 ?hop ?hend
 case h0=>exact (Below.refl _ _).drew
 case hop =>
  refine ⟨⟨⟨⟨⟨⟨⟨⟨⟨⟨trivial,?_⟩,?_⟩,?_⟩,?_⟩,?_⟩,?_⟩,?_⟩,?_⟩,?_⟩,?_⟩
  ·exact Owes.k0 17 [(2,.pointer (some ⟨w.heap.size,0,none⟩))]
  ·exact Owes.c1 17 5 0 a0
  ·exact Owes.k0 17 [(3,.pointer (some ⟨w.heap.size+1,0,none⟩))]
  ·exact Owes.c1 17 7 2 b0
  ·refine Owes.mk _ rfl rfl (fun _ _ h=>by cases h) fun u m w' hm hI hR=>⟨⟨(frm 17 [(6,u 1),(8,u 3)]).toArray,[]⟩,rfl,fun d hd=>by cases hd;exact frm_lt (by decide),?_⟩;dsimp only [frm,List.foldl,List.replicate,List.set];have e1:u 1=_:=hR 1 (by decide);have e3:u 3=_:=hR 3 (by decide);rw [e1,e3];clear e1 e3;have HI:=Lib.hid hI;clear hI hst;go_wp2_with fail
   refine (cmp_any _ _ _).mono ?_;rintro e w5 ⟨rfl,rfl⟩;go_wp2;exact ⟨rfl,_,rfl,rfl,HI.out,fun _ _ h=>h⟩
  ·exact Owes.k0 17 [(2,.pointer (some ⟨w.heap.size,0,none⟩))]
  ·exact Owes.c1 17 10 5 a1
  ·exact Owes.k0 17 [(3,.pointer (some ⟨w.heap.size+1,0,none⟩))]
  ·exact Owes.c1 17 12 7 b1
  ·refine Owes.mk _ rfl rfl (fun _ _ h=>by cases h) fun u m w' hm hI hR=>⟨⟨(frm 17 [(11,u 6),(13,u 8)]).toArray,[]⟩,rfl,fun d hd=>by cases hd;exact frm_lt (by decide),?_⟩;dsimp only [frm,List.foldl,List.replicate,List.set];have e6:u 6=_:=hR 6 (by decide);have e8:u 8=_:=hR 8 (by decide);rw [e6,e8];clear e6 e8;have HI:=Lib.hid hI;clear hI hst;go_wp2_with fail
   refine (cmp_any _ _ _).mono ?_;rintro e w5 ⟨rfl,rfl⟩;go_wp2;exact ⟨rfl,_,rfl,rfl,HI.out,fun _ _ h=>h⟩
 case hend =>
  intro u w' hI hR;simp only [setAll,List.set_cons_zero,List.set_cons_succ];have e4:u 4=_:=hR 4 (by decide);have e9:u 9=_:=hR 9 (by decide);rw [e4,e9];have HB:=Lib.hid (B.out.trans (hI.mono B.out.size));clear hR hst hI e4 e9 a0 a1 b0 b1;obtain ⟨z1,hz1⟩:∃ z,cmpI a.who b.who=z:=⟨_,rfl⟩;obtain ⟨z2,hz2⟩:∃ z,cmpI a.n b.n=z:=⟨_,rfl⟩;rw [hz1,hz2];obtain ⟨z3,hz3⟩:∃ z,(if z1=0 then z2 else z1)=z:=⟨_,rfl⟩;have Z1:=Lib.hid hz1;have Z2:=Lib.hid hz2;have Z3:=Lib.hid hz3;clear hz1 hz2 hz3;go_wp2_with fail
  refine (or_any _ z1 z2 _ (alloc1_new _ _ _ 0 rfl) (alloc1_new _ _ _ 1 rfl)).mono ?_;rw [Z3.out];rintro e w5 ⟨rfl,rfl⟩;go_wp2;go_ret;exact ⟨ret_int (by unfold cmpJ;rw [Z1.out,Z2.out,Z3.out]),HB.out.trans ((below_alloc _ _).mono HB.out.size)⟩
theorem none_any (x:Rsp) (v:Value) (fp:List Nat) (w:World) (g:SlR 1 intR w x.data v fp) :
 Calls Try.prog 123 #[.agg #[.int .i64 x.id,.int .i64 x.code,v]] w fun e w'=>e = .returned (.bool (rspNone x))∧Below w.heap.size w w':=by
 obtain ⟨a,n,c,rfl,hn,-,-,-,-⟩:=g.opened;have hb:=below_alloc w (.cells #[.int .i64 x.id,.int .i64 x.code,.slice a n c] 62);have B:=Lib.hid hb;have HN:Hid ((x.data.length == 0)=((n:Int) == 0)):=Lib.hid (by rw [hn.out,Bool.eq_iff_iff];simp);obtain ⟨b0,h0⟩:∃ z,(x.id == 0)=z:=⟨_,rfl⟩;obtain ⟨b1,h1⟩:∃ z,(x.code == 0)=z:=⟨_,rfl⟩;obtain ⟨b2,h2⟩:∃ z,((n:Int) == 0)=z:=⟨_,rfl⟩;have H0:=Lib.hid h0;have H1:=Lib.hid h1;have H2:=Lib.hid h2;clear hb g hn;cases b0
 case' true=>cases b1
 all_goals
  go_enter Try.func123,Try.ntmps123
  go_wp2;go_ret;exact ⟨ret_bool (by unfold rspNone;rw [H0.out,H1.out,HN.out,H2.out];first|rfl|simp),B.out⟩
theorem id_any (c:Bus) (k i:Nat) (hk:k<c.progs.length) (hi:i<c.progs[k].length) (v0 v1 v2:Value) (fp2:List Nat) (w:World) (g2:SlR 1 (slR 7 reqR) w c.progs v2 fp2) :
 Calls Try.prog 125 #[.agg #[v0,v1,v2],.int .i64 k,.int .i64 i] w fun e w'=>e = .returned (.int .i64 (idAt c k i))∧Below w.heap.size w w':=by
 have hb:=below_alloc w (.cells #[v0,v1,v2] 38);obtain ⟨a2,n2,c2,rfl,hn2,-,-,-,r⟩:=(SlR.below (slR_fits reqR_fits) g2 hb).opened;have hk2:k<n2:=by rw [<- hn2.out];exact hk
 obtain ⟨_,b1,o1,f1,cs,rfl,hb1,_,_,⟨y,rfl,hy⟩,e1⟩:=r k hk2;have c0:=e1 0 (by simp);simp only [Nat.mul_one,Nat.add_zero,List.getElem_cons_zero] at c0;obtain ⟨a3,n3,c3,rfl,hn3,-,-,-,r3⟩:=hy.opened;have hi2:i<n3:=by rw [<- hn3.out];exact hi
 obtain ⟨_,b3,o3,f3,cs,rfl,hb3,_,_,⟨dv,lv,df,lf,rfl,rfl,hd,hl⟩,e3⟩:=r3 i hi2;have d0:=e3 0 (by simp);simp only [Nat.add_zero,List.getElem_cons_zero] at d0;have hkk:(k:Int)<(n2:Int):=by omega
 have hii:(i:Int)<(n3:Int):=by omega
 have HA:=Lib.hid (idAt_at hk hi);have B:=Lib.hid hb;obtain ⟨z,hz⟩:∃ z,c.progs[k][i].id=z:=⟨_,rfl⟩;rw [hz] at d0 HA;clear hb g2 r r3 e1 e3 hy hd hl hz;go_enter Try.func125,Try.ntmps125
 go_wp2;go_ret;exact ⟨ret_int HA.out.symm,B.out⟩
set_option maxRecDepth 100000 in
theorem l5Before_any (a b:Job) (va vb:Value) (w:World) :
 Calls Try.prog 127 #[.agg #[.int .i64 a.who,.int .i64 a.n,.int .i64 a.rsp.id,.int .i64 a.rsp.code,va],.agg #[.int .i64 b.who,.int .i64 b.n,.int .i64 b.rsp.id,.int .i64 b.rsp.code,vb]] w fun e w'=>e = .returned (.bool (jobBefore a b))∧Below w.heap.size w w':=by
 have hb:Below w.heap.size w ((w.alloc (.cells #[.int .i64 a.who,.int .i64 a.n,.int .i64 a.rsp.id,.int .i64 a.rsp.code,va] 64)).alloc (.cells #[.int .i64 b.who,.int .i64 b.n,.int .i64 b.rsp.id,.int .i64 b.rsp.code,vb] 64)):=(two_jobs w a b va vb rfl).1;have B:=Lib.hid hb;obtain ⟨p,hp⟩:∃ z,decide (a.who<b.who)=z:=⟨_,rfl⟩;obtain ⟨q,hq⟩:∃ z,(a.who == b.who)=z:=⟨_,rfl⟩;obtain ⟨s,hs⟩:∃ z,decide (a.n<b.n)=z:=⟨_,rfl⟩;have HP:=Lib.hid hp;have HQ:=Lib.hid hq;have HS:=Lib.hid hs;clear hb;cases p
 case' false=>cases q
 all_goals
  go_enter Try.func127,Try.ntmps127
  go_wp2;go_ret;exact ⟨ret_bool (by unfold jobBefore;rw [HP.out,HQ.out,HS.out];first|rfl|simp),B.out⟩
set_option maxRecDepth 100000 in
set_option maxHeartbeats 1600000 in
theorem l5At_any (v:Value) (l:List Job) (fp:List Nat) (who m:Int) (w:World) (g:SlR 5 jobR w l v fp) :
 Calls Try.prog 87 #[v,.int .i64 who,.int .i64 m] w fun e w'=>e = .returned (.int .i64 (jobAt l who m))∧w'=w:=by
 obtain ⟨a,n,cap,rfl,hn,hcap,hmax,hcm,r⟩:=g.opened;clear g;go_enter Try.func87,Try.ntmps87
 go_wp2_with fail
 go_loopw [7] (fun i wr=>∃ k:Nat,k<=n∧i = .int .i64 k∧(∀ j (h:j<l.length),j<k->isJob who m l[j]=false)∧wr=w) (fun i _=>n - (intOf i).toNat)
 case atStart=>exact ⟨0,Nat.zero_le _,rfl,fun j _ h=>absurd h (Nat.not_lt_zero j),rfl⟩
 case round =>
  obtain ⟨k,hk,rfl,hp,rfl⟩:=hrel;have HP:=Lib.hid hp;clear hp;by_cases hlt:k<n
  ·obtain ⟨i1,b1,o1,f1,cs,rfl,hb1,_,_,⟨dv,df,rfl,rfl,hd⟩,e1⟩:=r k hlt;have c0:=e1 0 (by simp);have c1:=e1 1 (by simp);simp only [Nat.add_zero,List.getElem_cons_zero,List.getElem_cons_succ] at c0 c1;obtain ⟨p,hp⟩:∃ z,(l[k].who == who)=z:=⟨_,rfl⟩;obtain ⟨q,hq⟩:∃ z,(l[k].n == m)=z:=⟨_,rfl⟩;have HPp:=Lib.hid hp;have HQq:=Lib.hid hq;clear r e1 hd;cases p
   ·go_wp2
    go_roundw
    case rel=>exact ⟨k+1,by omega,by go_num,fun j h hj=>(by
     by_cases e':j=k
     ·subst e';unfold isJob;rw [HPp.out];rfl
     ·exact HP.out j h (by omega)),trivial⟩
    case measure=>simp [intOf];omega
   ·cases q
    ·go_wp2
     go_roundw
     case rel=>exact ⟨k+1,by omega,by go_num,fun j h hj=>(by
      by_cases e':j=k
      ·subst e';unfold isJob;rw [HPp.out,HQq.out];rfl
      ·exact HP.out j h (by omega)),trivial⟩
     case measure=>simp [intOf];omega
    ·go_wp2;go_ret;exact ⟨ret_int (idxOf_hit i1 (by unfold isJob;rw [HPp.out,HQq.out];rfl) (fun j h hj=>HP.out j h hj)).symm,rfl⟩
  ·clear r;go_wp2;go_ret;exact ⟨ret_int (idxOf_none (fun j h=>HP.out j h (by rw [hn.out] at h;omega))).symm,rfl⟩
end Go.Proofs.Ytmcjklicepaiaaa
namespace Go.Proofs.Ytmcjklicepaiaaa
def tbrising4:List (List Nat):=[[],[],[1],[0,1,2],[0,1,2,3],[],[],[5,6],[5,6,7],[0,1,2,3,4,5,6,7,8],[0,1,2,3,4,5,6,7,8,9]]
open Go.RowKit Go.ChangeShapes
def RiseTo (l:List Job) (m:Nat):Prop:=∀ k (h:k<l.length),0<k->k<m->jobBefore (l[k - 1]'(by omega)) l[k]=true
noncomputable def rise (l:List Job):Bool:=@decide (RiseTo l l.length) (Classical.propDecidable _)
theorem RiseTo.zero (l:List Job):RiseTo l 0:=fun k _ _ h=>absurd h (Nat.not_lt_zero k)
theorem RiseTo.one (l:List Job):RiseTo l 1:=fun k _ h0 h=>absurd h (by omega)
theorem RiseTo.step {l:List Job} {m:Nat} (h:RiseTo l m) (hm:m<l.length) (hb:0<m->jobBefore (l[m - 1]'(by omega)) l[m]=true):RiseTo l (m+1):=fun k hk h0 h1=>by
 by_cases e:k=m
 ·subst e;exact hb h0
 ·exact h k hk h0 (by omega)
theorem rise_yes {l:List Job} {m:Nat} (h:RiseTo l m) (hm:l.length<=m):rise l=true:=by
 unfold rise;exact @decide_eq_true _ (Classical.propDecidable _) fun k hk h0 _=>h k hk h0 (by omega)
theorem rise_no {l:List Job} {m:Nat} (hm:m<l.length) (h0:0<m) (hb:jobBefore (l[m - 1]'(by omega)) l[m]=false):rise l=false:=by
 unfold rise;exact @decide_eq_false _ (Classical.propDecidable _) fun h=>by have:=h m hm h0 hm;rw [hb] at this;cases this
theorem rise_at {l:List Job} (h:rise l=true):RiseTo l l.length:=by
 unfold rise at h;exact @of_decide_eq_true _ (Classical.propDecidable _) h
def jobCells (w:World) (b o:Nat) (x:Job) (v:Value):Prop:=w.cell? ⟨b,o,none⟩=some (.int .i64 x.who)∧w.cell? ⟨b,o+1,none⟩=some (.int .i64 x.n)∧w.cell? ⟨b,o+2,none⟩=some (.int .i64 x.rsp.id)∧w.cell? ⟨b,o+3,none⟩=some (.int .i64 x.rsp.code)∧w.cell? ⟨b,o+4,none⟩=some v
theorem jobs_at {w:World} {l:List Job} {a:Option Addr} {n cap:Nat} {fp:List Nat} (g:SlR 5 jobR w l (.slice a n cap) fp) {k:Nat} (hk:k<l.length) :
 ∃ (b o:Nat) (v:Value) (f:List Nat),a=some ⟨b,o,none⟩∧b<w.heap.size∧b∈fp∧(∀ c,c∈f->c∈fp)∧jobCells w b (o+k*5) l[k] v∧SlR 1 intR w l[k].rsp.data v f:=by
 obtain ⟨a',n',cap',e,hn,_,_,_,r⟩:=g.opened;cases e;obtain ⟨_,b,o,f,cs,rfl,hb,hf,hff,⟨dv,df,rfl,rfl,hd⟩,e1⟩:=r k (by rw [<- hn.out];exact hk);have c0:=e1 0 (by simp);have c1:=e1 1 (by simp);have c2:=e1 2 (by simp);have c3:=e1 3 (by simp);have c4:=e1 4 (by simp);simp only [Nat.add_zero,List.getElem_cons_zero,List.getElem_cons_succ] at c0 c1 c2 c3 c4;exact ⟨b,o,dv,f,rfl,hb,hf,hff,⟨c0,c1,c2,c3,c4⟩,hd⟩
set_option maxRecDepth 100000 in
set_option maxHeartbeats 3200000 in
theorem rising_any (l:List Job) (v:Value) (fp:List Nat) (w:World) (g:SlR 5 jobR w l v fp) :
 Calls Try.prog 122 #[v] w fun e w'=>e = .returned (.bool (rise l))∧Below w.heap.size w w':=by
 obtain ⟨a,n,cap,rfl,hn,hcap,hmax,hcm,r⟩:=g.opened;clear r;have G:=Lib.hid g;clear g;go_enter Try.func122,Try.ntmps122
 go_wp2_with fail
 go_loopw [3] (fun i wr=>∃ mm:Nat,1<=mm∧mm<=n+1∧i = .int .i64 mm∧RiseTo l mm∧Below w.heap.size w wr) (fun i _=>n+1 - (intOf i).toNat)
 case atStart=>exact ⟨1,by omega,by omega,rfl,RiseTo.one l,Below.refl _ _⟩
 case round =>
  obtain ⟨mm,hk1,hk2,rfl,hr,hb⟩:=hrel;have HR:=Lib.hid hr;have B:=Lib.hid hb;clear hr;by_cases hlt:mm<n
  ·obtain ⟨k,hk⟩:∃ k:Nat,mm=k+1:=⟨mm - 1,by omega⟩;have hL:mm<l.length:=by rw [hn.out];exact hlt
   have hL0:k<l.length:=by omega
   have G2:=Lib.hid (SlR.below jobR_fits G.out hb);obtain ⟨lb,lo,pv,pf,rfl,hlb,-,-,⟨p0,p1,p2,p3,p4⟩,-⟩:=jobs_at G2.out hL0;obtain ⟨lb',lo',qv,qf,e,-,-,-,⟨q0,q1,q2,q3,q4⟩,-⟩:=jobs_at G2.out hL;cases e;have HB:Hid (l[mm - 1]'(Nat.lt_of_le_of_lt (Nat.sub_le _ _) hL)=l[k]):=Lib.hid (by congr 1;omega);obtain ⟨ja,hja⟩:∃ z,l[k]=z:=⟨_,rfl⟩;obtain ⟨jb,hjb⟩:∃ z,l[mm]=z:=⟨_,rfl⟩;rw [hja] at p0 p1 p2 p3 HB;rw [hjb] at q0 q1 q2 q3;have HJB:=Lib.hid hjb;have hkk:(mm:Int)<(n:Int):=by omega
   have hkn:(k:Int)<(n:Int):=by omega
   have HKK:=Lib.hid hk;obtain ⟨z,hz⟩:∃ z,cmpJ ja jb=z:=⟨_,rfl⟩;have hz2:decide (0<=z) = !jobBefore ja jb:=by rw [<- hz];exact cmpJ_lt ja jb
   have HZ:=Lib.hid hz;clear hja hjb hz hb;obtain ⟨s,hs⟩:∃ z,jobBefore ja jb=z:=⟨_,rfl⟩;rw [hs] at hz2;have HS:=Lib.hid hs;clear hs;clear hk;cases s
   all_goals simp only [Bool.not_true,Bool.not_false] at hz2
   ·go_upto_region 4 with fail
    have hst:∀ F,F∈[FEq (.slice (some ⟨lb,lo,none⟩) n cap),FEq (.int .i64 (mm:Int)),FEq (.int .i64 (k:Int)),FEq (.pointer (some ⟨lb,lo+k*5,none⟩)),FEq (.agg #[.int .i64 ja.who,.int .i64 ja.n,.int .i64 ja.rsp.id,.int .i64 ja.rsp.code,pv]),FEq (.slice (some ⟨lb,lo,none⟩) n cap),FEq (.int .i64 (mm:Int)),FEq (.pointer (some ⟨lb,lo+mm*5,none⟩)),FEq (.agg #[.int .i64 jb.who,.int .i64 jb.n,.int .i64 jb.rsp.id,.int .i64 jb.rsp.code,qv]),FEq (.int .i64 z)]->Stable [] F:=by repeat first|exact st_nil|refine st_eq ?_
    refine wp_tailH hst tbrising4 (fun _ w'=>Below wr.heap.size wr w') 21 11 10 [some 10,some 11,some 12,some 13,some 14,some 15,some 16,some 17,some 18,some 19] _ [] ?h0 ?hop ?hend
    case h0=>exact (Below.refl _ _).drew
    case hop =>
     refine ⟨⟨⟨⟨⟨⟨⟨⟨⟨⟨trivial,?_⟩,?_⟩,?_⟩,?_⟩,?_⟩,?_⟩,?_⟩,?_⟩,?_⟩,?_⟩
     ·exact Owes.k0 21 [(0,.slice (some ⟨lb,lo,none⟩) n cap)]
     ·exact Owes.k0 21 [(3,.int .i64 (mm:Int))]
     ·refine Owes.mk _ rfl rfl (fun _ _ h=>by cases h) fun u m w' hm hI hR=>⟨⟨(frm 21 [(11,u 1)]).toArray,[]⟩,rfl,fun d hd=>by cases hd;exact frm_lt (by decide),?_⟩;dsimp only [frm,List.foldl,List.replicate,List.set];have e1:u 1=_:=hR 1 (by decide);rw [e1];clear e1;have HI:=Lib.hid hI;clear hI hst hR;go_wp2;exact ⟨rfl,_,rfl,(by have:=HKK.out;subst this;show _=_;go_num),HI.out,fun _ _ h=>h⟩
     ·exact Owes.k2 21 10 0 12 2
     ·refine Owes.q 21 (fun u=>[(13,u 3)]) fun u w' hI hR=>?_;dsimp only [frm,List.foldl,List.replicate,List.set];obtain ⟨_,hI⟩:=hI;have k0:=keep_cell hI p0;have k1:=keep_cell hI p1;have k2:=keep_cell hI p2;have k3:=keep_cell hI p3;have k4:=keep_cell hI p4;have e3:u 3=_:=hR 3 (by decide);rw [e3];clear hI hst hR;go_wp2;exact ⟨rfl,_,rfl,rfl,rfl⟩
     ·exact Owes.k0 21 [(0,.slice (some ⟨lb,lo,none⟩) n cap)]
     ·exact Owes.k0 21 [(3,.int .i64 (mm:Int))]
     ·exact Owes.k2 21 15 5 16 6
     ·refine Owes.q 21 (fun u=>[(17,u 7)]) fun u w' hI hR=>?_;dsimp only [frm,List.foldl,List.replicate,List.set];obtain ⟨_,hI⟩:=hI;have k5:=keep_cell hI q0;have k6:=keep_cell hI q1;have k7:=keep_cell hI q2;have k8:=keep_cell hI q3;have k9:=keep_cell hI q4;have e7:u 7=_:=hR 7 (by decide);rw [e7];clear hI hst hR;go_wp2;exact ⟨rfl,_,rfl,rfl,rfl⟩
     ·refine Owes.mk _ rfl rfl (fun _ _ h=>by cases h) fun u m w' hm hI hR=>⟨⟨(frm 21 [(14,u 4),(18,u 8)]).toArray,[]⟩,rfl,fun d hd=>by cases hd;exact frm_lt (by decide),?_⟩;dsimp only [frm,List.foldl,List.replicate,List.set];have e4:u 4=_:=hR 4 (by decide);have e8:u 8=_:=hR 8 (by decide);rw [e4,e8];clear e4 e8;have HI:=Lib.hid hI;clear hI hR;go_wp2_with fail
      refine (compareJobs_any ja jb _ _ _).mono ?_;rw [HZ.out];rintro e w5 ⟨rfl,b5⟩;have HS5:=Lib.hid (facts_stable hst (b5.chg []));have HI5:=Lib.hid (HI.out.trans (b5.mono HI.out.size));clear b5 hst;go_wp2;exact ⟨rfl,_,rfl,rfl,HI5.out,HS5.out⟩
    case hend =>
     intro u w' hI hR;simp only [setAll,List.set_cons_zero,List.set_cons_succ];have e9:u 9=_:=hR 9 (by decide);rw [e9];have B2:=Lib.hid (B.out.trans (hI.mono B.out.size));clear hR hst hI e9 p0 p1 p2 p3 p4 q0 q1 q2 q3 q4;go_wp2;go_ret;exact ⟨ret_bool (rise_no hL (by omega) (by rw [HB.out,HJB.out];exact HS.out)).symm,B2.out⟩
   ·go_upto_region 4 with fail
    have hst:∀ F,F∈[FEq (.slice (some ⟨lb,lo,none⟩) n cap),FEq (.int .i64 (mm:Int)),FEq (.int .i64 (k:Int)),FEq (.pointer (some ⟨lb,lo+k*5,none⟩)),FEq (.agg #[.int .i64 ja.who,.int .i64 ja.n,.int .i64 ja.rsp.id,.int .i64 ja.rsp.code,pv]),FEq (.slice (some ⟨lb,lo,none⟩) n cap),FEq (.int .i64 (mm:Int)),FEq (.pointer (some ⟨lb,lo+mm*5,none⟩)),FEq (.agg #[.int .i64 jb.who,.int .i64 jb.n,.int .i64 jb.rsp.id,.int .i64 jb.rsp.code,qv]),FEq (.int .i64 z)]->Stable [] F:=by repeat first|exact st_nil|refine st_eq ?_
    refine wp_tailH hst tbrising4 (fun _ w'=>Below wr.heap.size wr w') 21 11 10 [some 10,some 11,some 12,some 13,some 14,some 15,some 16,some 17,some 18,some 19] _ [] ?h0 ?hop ?hend
    case h0=>exact (Below.refl _ _).drew
    case hop =>
     refine ⟨⟨⟨⟨⟨⟨⟨⟨⟨⟨trivial,?_⟩,?_⟩,?_⟩,?_⟩,?_⟩,?_⟩,?_⟩,?_⟩,?_⟩,?_⟩
     ·exact Owes.k0 21 [(0,.slice (some ⟨lb,lo,none⟩) n cap)]
     ·exact Owes.k0 21 [(3,.int .i64 (mm:Int))]
     ·refine Owes.mk _ rfl rfl (fun _ _ h=>by cases h) fun u m w' hm hI hR=>⟨⟨(frm 21 [(11,u 1)]).toArray,[]⟩,rfl,fun d hd=>by cases hd;exact frm_lt (by decide),?_⟩;dsimp only [frm,List.foldl,List.replicate,List.set];have e1:u 1=_:=hR 1 (by decide);rw [e1];clear e1;have HI:=Lib.hid hI;clear hI hst hR;go_wp2;exact ⟨rfl,_,rfl,(by have:=HKK.out;subst this;show _=_;go_num),HI.out,fun _ _ h=>h⟩
     ·exact Owes.k2 21 10 0 12 2
     ·refine Owes.q 21 (fun u=>[(13,u 3)]) fun u w' hI hR=>?_;dsimp only [frm,List.foldl,List.replicate,List.set];obtain ⟨_,hI⟩:=hI;have k0:=keep_cell hI p0;have k1:=keep_cell hI p1;have k2:=keep_cell hI p2;have k3:=keep_cell hI p3;have k4:=keep_cell hI p4;have e3:u 3=_:=hR 3 (by decide);rw [e3];clear hI hst hR;go_wp2;exact ⟨rfl,_,rfl,rfl,rfl⟩
     ·exact Owes.k0 21 [(0,.slice (some ⟨lb,lo,none⟩) n cap)]
     ·exact Owes.k0 21 [(3,.int .i64 (mm:Int))]
     ·exact Owes.k2 21 15 5 16 6
     ·refine Owes.q 21 (fun u=>[(17,u 7)]) fun u w' hI hR=>?_;dsimp only [frm,List.foldl,List.replicate,List.set];obtain ⟨_,hI⟩:=hI;have k5:=keep_cell hI q0;have k6:=keep_cell hI q1;have k7:=keep_cell hI q2;have k8:=keep_cell hI q3;have k9:=keep_cell hI q4;have e7:u 7=_:=hR 7 (by decide);rw [e7];clear hI hst hR;go_wp2;exact ⟨rfl,_,rfl,rfl,rfl⟩
     ·refine Owes.mk _ rfl rfl (fun _ _ h=>by cases h) fun u m w' hm hI hR=>⟨⟨(frm 21 [(14,u 4),(18,u 8)]).toArray,[]⟩,rfl,fun d hd=>by cases hd;exact frm_lt (by decide),?_⟩;dsimp only [frm,List.foldl,List.replicate,List.set];have e4:u 4=_:=hR 4 (by decide);have e8:u 8=_:=hR 8 (by decide);rw [e4,e8];clear e4 e8;have HI:=Lib.hid hI;clear hI hR;go_wp2_with fail
      refine (compareJobs_any ja jb _ _ _).mono ?_;rw [HZ.out];rintro e w5 ⟨rfl,b5⟩;have HS5:=Lib.hid (facts_stable hst (b5.chg []));have HI5:=Lib.hid (HI.out.trans (b5.mono HI.out.size));clear b5 hst;go_wp2;exact ⟨rfl,_,rfl,rfl,HI5.out,HS5.out⟩
    case hend =>
     intro u w' hI hR;simp only [setAll,List.set_cons_zero,List.set_cons_succ];have e9:u 9=_:=hR 9 (by decide);rw [e9];have B2:=Lib.hid (B.out.trans (hI.mono B.out.size));clear hR hst hI e9 p0 p1 p2 p3 p4 q0 q1 q2 q3 q4;go_wp2
     go_roundw
     case rel=>exact ⟨mm+1,by omega,by omega,by go_num,HR.out.step hL (fun _=>by rw [HB.out,HJB.out];exact HS.out),B2.out⟩
     case measure=>simp [intOf];omega
  ·go_wp2;go_ret;exact ⟨ret_bool (rise_yes HR.out (by rw [hn.out];omega)).symm,B.out⟩
end Go.Proofs.Ytmcjklicepaiaaa
