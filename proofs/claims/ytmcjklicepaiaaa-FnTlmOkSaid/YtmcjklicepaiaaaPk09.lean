/-
 Texts of this claim laid together: BusOk Ev Push.
-/
import Derived.Test.YtmcjklicepaiaaaPk08
import Derived.WalkSmall
import Derived.OwnWalk
import Derived.KernelRfl
import Derived.Deep.QuietTactic
import Derived.BigQuiet
import Derived.StillTailTactics
set_option linter.unusedVariables false
set_option linter.unusedSimpArgs false
namespace Go.Proofs.Ytmcjklicepaiaaa
open Go.RowKit
def badReq (x:Req):Bool := !reqOk x
def progOk (p:List Req):Bool:=decide (p.length<=12) && p.all reqOk
def badProg (p:List Req):Bool := !progOk p
def busOk (x:Bus):Bool:=mapOk x.map && (decide (x.lat.length=4) && (allIn x.lat 0 3 && (decide (x.progs.length=3) && x.progs.all progOk)))
theorem any_badReq (p:List Req):p.any badReq = !p.all reqOk:=by
 rw [List.all_eq_not_any_not];simp only [Bool.not_not];rfl
theorem any_badProg (p:List (List Req)):p.any badProg = !p.all progOk:=by
 rw [List.all_eq_not_any_not];simp only [Bool.not_not];rfl
theorem lat_any (n:Int) (w:World):Calls Try.prog 59 #[.int .i64 n] w fun e w'=>e = .returned (.bool (noLane n))∧Below w.heap.size w w':=by
 go_enter Try.func59,Try.ntmps59
 go_wp2_with fail
 refine (in_any _ _ _ _).mono ?_;rintro e w' ⟨rfl,rfl⟩;go_wp2;go_ret;exact ⟨rfl,Below.refl _ _⟩
theorem indexLat  (v:Value) (l:List Int) (fp:List Nat) (w:World)  (g:SlR 1 intR w l v fp) :
 Calls Try.prog 108 #[v,.func (.func 59) #[] #[]] w fun e w'=>e = .returned (.int .i64 (idxOf noLane l))∧Below w.heap.size w w':=by
 obtain ⟨a,n,c,rfl,hn,hcap,hmax,hcm,r⟩:=g.opened;have G:=Lib.hid g;clear g;go_enter Try.func108,Try.ntmps108
 go_wp2_with fail
 go_loopw [8] (fun i wr=>∃ k:Nat,k<=n∧i = .int .i64 k∧(∀ j (h:j<l.length),j<k->noLane l[j]=false)∧Below w.heap.size w wr) (fun i _=>n - (intOf i).toNat)
 case atStart=>exact ⟨0,Nat.zero_le _,rfl,fun j _ h=>absurd h (Nat.not_lt_zero j),Below.refl _ _⟩
 case round =>
  obtain ⟨k,hk,rfl,hp,hb⟩:=hrel;have HP:=Lib.hid hp;have HB:=Lib.hid hb;clear hp;by_cases hlt:k<n
  ·obtain ⟨i1,b1,o1,f1,cs,rfl,hb1,hbf,hff,hR,e1⟩:=r k hlt;have HR:=Lib.hid hR;obtain ⟨rfl,rfl⟩:=hR;have c0:=(hb.cell (p:=⟨b1,o1+k*1+0,none⟩) hb1).trans (e1 0 (by simp));simp only [Nat.mul_one,Nat.add_zero,List.getElem_cons_zero] at c0;clear r e1 hb hbf hff;go_wp2_with fail
   refine (lat_any l[k] _).mono ?_;rintro e w2 ⟨rfl,b2⟩;have HB2:=Lib.hid (HB.out.trans (b2.mono HB.out.size));clear b2 c0;cases hq:noLane l[k]
   ·have HQ:=Lib.hid hq;clear hq;go_wp2
    go_roundw
    case rel=>exact ⟨k+1,by omega,by go_num,fun j h hj=>(by
     by_cases e:j=k
     ·subst e;exact HQ.out
     ·exact HP.out j h (by omega)),HB2.out⟩
    case measure=>simp [intOf];omega
   ·have HQ:=Lib.hid hq;clear hq;go_wp2;go_ret;exact ⟨ret_int (idxOf_hit i1 HQ.out (fun j h hj=>HP.out j h hj)).symm,HB2.out⟩
  ·clear r hb;go_wp2;go_ret;exact ⟨ret_int (idxOf_none (fun j h=>HP.out j h (by rw [hn.out] at h;omega))).symm,HB.out⟩
theorem containsLat  (v:Value) (l:List Int) (fp:List Nat) (w:World)  (g:SlR 1 intR w l v fp) :
 Calls Try.prog 58 #[v,.func (.func 59) #[] #[]] w fun e w'=>e = .returned (.bool (l.any noLane))∧Below w.heap.size w w':=by
 go_enter Try.func58,Try.ntmps58
 go_wp2_with fail
 refine (indexLat  v l fp _  g).mono ?_;rintro e w' ⟨rfl,hb⟩;have HB:=Lib.hid hb;clear hb;cases hq:decide (0<=idxOf noLane l)
 all_goals
  go_wp2;go_ret;exact ⟨ret_bool (by rw [<- idxOf_any,hq]),HB.out⟩
theorem badReq_any (x:Req) (v0 v1:Value) (fp0 fp1:List Nat) (w:World) (g0:SlR 1 intR w x.data v0 fp0) (g1:SlR 1 intR w x.lanes v1 fp1) :
 Calls Try.prog 63 #[.agg #[.int .i64 x.id,.int .i64 x.kind,.int .i64 x.addr,.int .i64 x.many,.bool x.wrap,v0,v1]] w fun e w'=>e = .returned (.bool (badReq x))∧Below w.heap.size w w':=by
 have hb:=below_alloc w (.cells #[.int .i64 x.id,.int .i64 x.kind,.int .i64 x.addr,.int .i64 x.many,.bool x.wrap,v0,v1] 26);have G0:=Lib.hid (SlR.below intR_fits g0 hb);have G1:=Lib.hid (SlR.below intR_fits g1 hb);have B:=Lib.hid hb;clear hb g0 g1;go_enter Try.func63,Try.ntmps63
 go_wp2_with fail
 refine (iReqOk_any x _ _ fp0 fp1 _ G0.out G1.out).mono ?_;rintro e w' ⟨rfl,b⟩;replace B:=Lib.hid (B.out.trans (b.mono B.out.size));clear b;go_wp2;go_ret;exact ⟨rfl,B.out⟩
theorem indexBadReq  (v:Value) (l:List Req) (fp:List Nat) (w:World)  (g:SlR 7 reqR w l v fp) :
 Calls Try.prog 110 #[v,.func (.func 63) #[] #[]] w fun e w'=>e = .returned (.int .i64 (idxOf badReq l))∧Below w.heap.size w w':=by
 obtain ⟨a,n,c,rfl,hn,hcap,hmax,hcm,r⟩:=g.opened;have G:=Lib.hid g;clear g;go_enter Try.func110,Try.ntmps110
 go_wp2_with fail
 go_loopw [8] (fun i wr=>∃ k:Nat,k<=n∧i = .int .i64 k∧(∀ j (h:j<l.length),j<k->badReq l[j]=false)∧Below w.heap.size w wr) (fun i _=>n - (intOf i).toNat)
 case atStart=>exact ⟨0,Nat.zero_le _,rfl,fun j _ h=>absurd h (Nat.not_lt_zero j),Below.refl _ _⟩
 case round =>
  obtain ⟨k,hk,rfl,hp,hb⟩:=hrel;have HP:=Lib.hid hp;have HB:=Lib.hid hb;clear hp;by_cases hlt:k<n
  ·obtain ⟨i1,b1,o1,f1,cs,rfl,hb1,hbf,hff,hR,e1⟩:=r k hlt;have HR:=Lib.hid hR;obtain ⟨dv,lv,df,lf,rfl,rfl,hd,hl⟩:=hR;have c0:=(hb.cell (p:=⟨b1,o1+k*7+0,none⟩) hb1).trans (e1 0 (by simp));have c1:=(hb.cell (p:=⟨b1,o1+k*7+1,none⟩) hb1).trans (e1 1 (by simp));have c2:=(hb.cell (p:=⟨b1,o1+k*7+2,none⟩) hb1).trans (e1 2 (by simp));have c3:=(hb.cell (p:=⟨b1,o1+k*7+3,none⟩) hb1).trans (e1 3 (by simp));have c4:=(hb.cell (p:=⟨b1,o1+k*7+4,none⟩) hb1).trans (e1 4 (by simp));have c5:=(hb.cell (p:=⟨b1,o1+k*7+5,none⟩) hb1).trans (e1 5 (by simp));have c6:=(hb.cell (p:=⟨b1,o1+k*7+6,none⟩) hb1).trans (e1 6 (by simp));simp only [Nat.add_zero,List.getElem_cons_zero,List.getElem_cons_succ] at c0 c1 c2 c3 c4 c5 c6;clear r e1 hb hbf hff;have GD:=Lib.hid (SlR.below intR_fits hd HB.out);have GL:=Lib.hid (SlR.below intR_fits hl HB.out);clear hd hl HR;go_wp2_with fail
   refine (badReq_any l[k] _ _ df lf _ GD.out GL.out).mono ?_;rintro e w2 ⟨rfl,b2⟩;have HB2:=Lib.hid (HB.out.trans (b2.mono HB.out.size));clear b2 c0 c1 c2 c3 c4 c5 c6;cases hq:badReq l[k]
   ·have HQ:=Lib.hid hq;clear hq;go_wp2
    go_roundw
    case rel=>exact ⟨k+1,by omega,by go_num,fun j h hj=>(by
     by_cases e:j=k
     ·subst e;exact HQ.out
     ·exact HP.out j h (by omega)),HB2.out⟩
    case measure=>simp [intOf];omega
   ·have HQ:=Lib.hid hq;clear hq;go_wp2;go_ret;exact ⟨ret_int (idxOf_hit i1 HQ.out (fun j h hj=>HP.out j h hj)).symm,HB2.out⟩
  ·clear r hb;go_wp2;go_ret;exact ⟨ret_int (idxOf_none (fun j h=>HP.out j h (by rw [hn.out] at h;omega))).symm,HB.out⟩
theorem containsBadReq  (v:Value) (l:List Req) (fp:List Nat) (w:World)  (g:SlR 7 reqR w l v fp) :
 Calls Try.prog 62 #[v,.func (.func 63) #[] #[]] w fun e w'=>e = .returned (.bool (l.any badReq))∧Below w.heap.size w w':=by
 go_enter Try.func62,Try.ntmps62
 go_wp2_with fail
 refine (indexBadReq  v l fp _  g).mono ?_;rintro e w' ⟨rfl,hb⟩;have HB:=Lib.hid hb;clear hb;cases hq:decide (0<=idxOf badReq l)
 all_goals
  go_wp2;go_ret;exact ⟨ret_bool (by rw [<- idxOf_any,hq]),HB.out⟩
set_option maxRecDepth 100000 in
theorem badProg_any (p:List Req) (v:Value) (fp:List Nat) (w:World) (g:SlR 7 reqR w p v fp) :
 Calls Try.prog 61 #[v] w fun e w'=>e = .returned (.bool (badProg p))∧Below w.heap.size w w':=by
 obtain ⟨a,n,c,rfl,hn,_,_,_,_⟩:=g.opened;have G:=Lib.hid g;have HN:=Lib.hid (show decide (p.length<=12)=decide ((n:Int)<=12) by rw [hn.out];exact decide_eq_decide.2 (by omega));clear g hn;by_cases h:(n:Int)<=12
 ·have H:=Lib.hid (decide_eq_true h);have h':decide (12<(n:Int))=false:=decide_eq_false (by omega);cases q:p.all reqOk
  all_goals
   have Q:=Lib.hid q;clear q;go_enter Try.func61,Try.ntmps61
   go_wp2_with fail
   refine (containsBadReq _ p fp _ G.out).mono ?_;rw [any_badReq,Q.out];rintro e w' ⟨rfl,b⟩;have B:=Lib.hid b;clear b;go_wp2;go_ret;exact ⟨ret_bool (by unfold badProg progOk;rw [HN.out,H.out,Q.out];rfl),B.out⟩
 ·have H:=Lib.hid (decide_eq_false h);have h':12<(n:Int):=by omega
  go_enter Try.func61,Try.ntmps61
  go_wp2;go_ret;exact ⟨ret_bool (by unfold badProg progOk;rw [HN.out,H.out];rfl),Below.refl _ _⟩
theorem indexBadProg  (v:Value) (l:List (List Req)) (fp:List Nat) (w:World)  (g:SlR 1 (slR 7 reqR) w l v fp) :
 Calls Try.prog 109 #[v,.func (.func 61) #[] #[]] w fun e w'=>e = .returned (.int .i64 (idxOf badProg l))∧Below w.heap.size w w':=by
 obtain ⟨a,n,c,rfl,hn,hcap,hmax,hcm,r⟩:=g.opened;have G:=Lib.hid g;clear g;go_enter Try.func109,Try.ntmps109
 go_wp2_with fail
 go_loopw [8] (fun i wr=>∃ k:Nat,k<=n∧i = .int .i64 k∧(∀ j (h:j<l.length),j<k->badProg l[j]=false)∧Below w.heap.size w wr) (fun i _=>n - (intOf i).toNat)
 case atStart=>exact ⟨0,Nat.zero_le _,rfl,fun j _ h=>absurd h (Nat.not_lt_zero j),Below.refl _ _⟩
 case round =>
  obtain ⟨k,hk,rfl,hp,hb⟩:=hrel;have HP:=Lib.hid hp;have HB:=Lib.hid hb;clear hp;by_cases hlt:k<n
  ·obtain ⟨i1,b1,o1,f1,cs,rfl,hb1,hbf,hff,hR,e1⟩:=r k hlt;have HR:=Lib.hid hR;obtain ⟨y,rfl,hy⟩:=hR;have c0:=(hb.cell (p:=⟨b1,o1+k*1+0,none⟩) hb1).trans (e1 0 (by simp));simp only [Nat.mul_one,Nat.add_zero,List.getElem_cons_zero] at c0;clear r e1 hb hbf hff;have GY:=Lib.hid (SlR.below reqR_fits hy HB.out);clear hy HR;go_wp2_with fail
   refine (badProg_any l[k] _ _ _ GY.out).mono ?_;rintro e w2 ⟨rfl,b2⟩;have HB2:=Lib.hid (HB.out.trans (b2.mono HB.out.size));clear b2 c0;cases hq:badProg l[k]
   ·have HQ:=Lib.hid hq;clear hq;go_wp2
    go_roundw
    case rel=>exact ⟨k+1,by omega,by go_num,fun j h hj=>(by
     by_cases e:j=k
     ·subst e;exact HQ.out
     ·exact HP.out j h (by omega)),HB2.out⟩
    case measure=>simp [intOf];omega
   ·have HQ:=Lib.hid hq;clear hq;go_wp2;go_ret;exact ⟨ret_int (idxOf_hit i1 HQ.out (fun j h hj=>HP.out j h hj)).symm,HB2.out⟩
  ·clear r hb;go_wp2;go_ret;exact ⟨ret_int (idxOf_none (fun j h=>HP.out j h (by rw [hn.out] at h;omega))).symm,HB.out⟩
theorem containsBadProg  (v:Value) (l:List (List Req)) (fp:List Nat) (w:World)  (g:SlR 1 (slR 7 reqR) w l v fp) :
 Calls Try.prog 60 #[v,.func (.func 61) #[] #[]] w fun e w'=>e = .returned (.bool (l.any badProg))∧Below w.heap.size w w':=by
 go_enter Try.func60,Try.ntmps60
 go_wp2_with fail
 refine (indexBadProg  v l fp _  g).mono ?_;rintro e w' ⟨rfl,hb⟩;have HB:=Lib.hid hb;clear hb;cases hq:decide (0<=idxOf badProg l)
 all_goals
  go_wp2;go_ret;exact ⟨ret_bool (by rw [<- idxOf_any,hq]),HB.out⟩
set_option maxRecDepth 100000 in
set_option maxHeartbeats 3200000 in
theorem iBusOk_any (x:Bus) (v0 v1 v2:Value) (fp0 fp1 fp2:List Nat) (w:World) (g0:SlR 4 mrR w x.map v0 fp0) (g1:SlR 1 intR w x.lat v1 fp1) (g2:SlR 1 (slR 7 reqR) w x.progs v2 fp2) :
 Calls Try.prog 18 #[.agg #[v0,v1,v2]] w fun e w'=>e = .returned (.bool (busOk x))∧Below w.heap.size w w':=by
 have hb:=below_alloc w (.cells #[v0,v1,v2] 38);have G0:=Lib.hid (SlR.below mrR_fits g0 hb);have G1:=Lib.hid (SlR.below intR_fits g1 hb);have G2:=Lib.hid (SlR.below (slR_fits reqR_fits) g2 hb);have B:=Lib.hid hb;obtain ⟨a1,n1,c1,rfl,hn1,_,_,_,_⟩:=g1.opened;obtain ⟨a2,n2,c2,rfl,hn2,_,_,_,_⟩:=g2.opened;have H1:=Lib.hid (show decide (x.lat.length=4)=((n1:Int) == 4) by rw [hn1.out,Bool.eq_iff_iff];simp;omega);have H2:=Lib.hid (show decide (x.progs.length=3)=((n2:Int) == 3) by rw [hn2.out,Bool.eq_iff_iff];simp;omega);clear hb g0 g1 g2 hn1 hn2;cases q0:mapOk x.map
 case' true =>
  cases q1:((n1:Int) == 4)
  case' true =>
   cases q2:allIn x.lat 0 3
   case' true =>
    cases q3:((n2:Int) == 3)
    case' true=>cases q4:x.progs.all progOk
 all_goals
  have Q0:=Lib.hid q0
  (try have Q1:=Lib.hid q1)
  (try have Q2:=Lib.hid q2)
  (try have Q3:=Lib.hid q3)
  (try have Q4:=Lib.hid q4)
  clear q0
  (try clear q2)
  (try clear q4)
  go_enter Try.func18,Try.ntmps18
  go_wp2_with (first
   | (go_at_call 14;refine (iMapOk_any _ x.map fp0 _ G0.out).mono ?_;rw [Q0.out];rintro e w2 ⟨rfl,b⟩;replace G1:=Lib.hid (SlR.below intR_fits G1.out b);replace G2:=Lib.hid (SlR.below (slR_fits reqR_fits) G2.out b);have X1:=keep_cell b (alloc1_new w _ _ 1 rfl);have X2:=keep_cell b (alloc1_new w _ _ 2 rfl);replace B:=Lib.hid (B.out.trans (b.mono B.out.size));clear b)
   | (go_at_call 58;refine (containsLat _ x.lat fp1 _ G1.out).mono ?_;rw [lanes_eq,Q2.out];rintro e w3 ⟨rfl,b⟩;replace G2:=Lib.hid (SlR.below (slR_fits reqR_fits) G2.out b);replace X2:=keep_cell b X2;replace B:=Lib.hid (B.out.trans (b.mono B.out.size));clear b)
   | (go_at_call 60;refine (containsBadProg _ x.progs fp2 _ G2.out).mono ?_;rw [any_badProg,Q4.out];rintro e w4 ⟨rfl,b⟩;replace B:=Lib.hid (B.out.trans (b.mono B.out.size));clear b))
  all_goals go_ret
  all_goals refine ⟨ret_bool ?_,B.out⟩
  all_goals unfold busOk
  all_goals rw [H1.out,H2.out,Q0.out]
  all_goals (try rw [Q1.out])
  all_goals (try rw [Q2.out])
  all_goals (try rw [Q3.out])
  all_goals (try rw [Q4.out])
  all_goals rfl
set_option maxRecDepth 100000 in
set_option maxHeartbeats 3200000 in
theorem l4Prog_any (p:List Req) (v:Value) (fp:List Nat) (w:World) (g:SlR 7 reqR w p v fp) :
 Calls Try.prog 65 #[v] w fun e w'=>e = .returned (.bool (p.all reqOk))∧Below w.heap.size w w':=by
 obtain ⟨a,n,cap,rfl,hn,hcap,hmax,hcm,r⟩:=g.opened;clear g;go_enter Try.func65,Try.ntmps65
 go_wp2_with fail
 go_loopw [3] (fun i wr=>∃ k:Nat,k<=n∧i = .int .i64 k∧(∀ j (h:j<p.length),j<k->reqOk p[j]=true)∧Below w.heap.size w wr) (fun i _=>n - (intOf i).toNat)
 case atStart=>exact ⟨0,Nat.zero_le _,rfl,fun j _ h=>absurd h (Nat.not_lt_zero j),Below.refl _ _⟩
 case round =>
  obtain ⟨k,hk,rfl,hp,hb⟩:=hrel;have HP:=Lib.hid hp;have HB:=Lib.hid hb;clear hp;by_cases hlt:k<n
  ·obtain ⟨i1,b1,o1,f1,cs,rfl,hb1,_,_,⟨dv,lv,df,lf,rfl,rfl,hd,hl⟩,e1⟩:=r k hlt;have c0:=(hb.cell (p:=⟨b1,o1+k*7+0,none⟩) hb1).trans (e1 0 (by simp));have c1:=(hb.cell (p:=⟨b1,o1+k*7+1,none⟩) hb1).trans (e1 1 (by simp));have c2:=(hb.cell (p:=⟨b1,o1+k*7+2,none⟩) hb1).trans (e1 2 (by simp));have c3:=(hb.cell (p:=⟨b1,o1+k*7+3,none⟩) hb1).trans (e1 3 (by simp));have c4:=(hb.cell (p:=⟨b1,o1+k*7+4,none⟩) hb1).trans (e1 4 (by simp));have c5:=(hb.cell (p:=⟨b1,o1+k*7+5,none⟩) hb1).trans (e1 5 (by simp));have c6:=(hb.cell (p:=⟨b1,o1+k*7+6,none⟩) hb1).trans (e1 6 (by simp));simp only [Nat.add_zero,List.getElem_cons_zero,List.getElem_cons_succ] at c0 c1 c2 c3 c4 c5 c6;have GD:=Lib.hid (SlR.below intR_fits hd hb);have GL:=Lib.hid (SlR.below intR_fits hl hb);clear r e1 hb hd hl;go_wp2_with fail
   refine (sReqOk_any p[k] _ _ df lf _ GD.out GL.out).mono ?_;rintro e w2 ⟨rfl,b⟩;have HB2:=Lib.hid (HB.out.trans (b.mono HB.out.size));clear b;cases hq:reqOk p[k]
   ·have HQ:=Lib.hid hq;clear hq;go_wp2;go_ret;exact ⟨ret_bool (by
     symm;rw [List.all_eq_false];exact ⟨p[k],List.getElem_mem i1,by simp [HQ.out]⟩),HB2.out⟩
   ·have HQ:=Lib.hid hq;clear hq;go_wp2
    go_roundw
    case rel=>exact ⟨k+1,by omega,by go_num,fun j h hj=>(by
     by_cases e:j=k
     ·subst e;exact HQ.out
     ·exact HP.out j h (by omega)),HB2.out⟩
    case measure=>simp [intOf];omega
  ·clear r hb;go_wp2;go_ret;exact ⟨ret_bool (by
    symm;rw [List.all_eq_true];intro x hx;obtain ⟨j,hj,rfl⟩:=List.mem_iff_getElem.1 hx;exact HP.out j hj (by rw [hn.out] at hj;omega)),HB.out⟩
set_option maxRecDepth 100000 in
set_option maxHeartbeats 6400000 in
theorem sBusOk_any (x:Bus) (v0 v1 v2:Value) (fp0 fp1 fp2:List Nat) (w:World) (g0:SlR 4 mrR w x.map v0 fp0) (g1:SlR 1 intR w x.lat v1 fp1) (g2:SlR 1 (slR 7 reqR) w x.progs v2 fp2) :
 Calls Try.prog 19 #[.agg #[v0,v1,v2]] w fun e w'=>e = .returned (.bool (busOk x))∧Below w.heap.size w w':=by
 have hb:=below_alloc w (.cells #[v0,v1,v2] 38);have G0:=Lib.hid (SlR.below mrR_fits g0 hb);have G1:=Lib.hid (SlR.below intR_fits g1 hb);have G2:=Lib.hid (SlR.below (slR_fits reqR_fits) g2 hb);have B:=Lib.hid hb;obtain ⟨a1,n1,c1,rfl,hn1,_,_,_,_⟩:=g1.opened;obtain ⟨a2,n2,c2,rfl,hn2,_,_,_,_⟩:=g2.opened;have H1:=Lib.hid (show decide (x.lat.length=4)=((n1:Int) == 4) by rw [hn1.out,Bool.eq_iff_iff];simp;omega);have H2:=Lib.hid (show decide (x.progs.length=3)=((n2:Int) == 3) by rw [hn2.out,Bool.eq_iff_iff];simp;omega);clear hb g0 g1 g2 hn1;cases q0:mapOk x.map
 case' true =>
  cases q1:((n1:Int) != 4)
  case' false =>
   cases q2:allIn x.lat 0 3
   case' true =>
    cases q3:((n2:Int) != 3)
 all_goals
  have Q0:=Lib.hid q0
  (try have Q1:Hid (((n1:Int) == 4)=true):=Lib.hid (by simpa [bne] using q1))
  (try have Q1:Hid (((n1:Int) == 4)=false):=Lib.hid (by simpa [bne] using q1))
  (try have Q2:=Lib.hid q2)
  (try have Q3:Hid (((n2:Int) == 3)=true):=Lib.hid (by simpa [bne] using q3))
  (try have Q3:Hid (((n2:Int) == 3)=false):=Lib.hid (by simpa [bne] using q3))
  clear q0
  (try clear q2)
  go_enter Try.func19,Try.ntmps19
  go_wp2_with (first
   | (go_at_call 48;refine (sMapOk_any _ x.map fp0 _ G0.out).mono ?_;rw [Q0.out];rintro e w2 ⟨rfl,b⟩;replace G1:=Lib.hid (SlR.below intR_fits G1.out b);replace G2:=Lib.hid (SlR.below (slR_fits reqR_fits) G2.out b);have X1:=keep_cell b (alloc1_new w _ _ 1 rfl);have X2:=keep_cell b (alloc1_new w _ _ 2 rfl);replace B:=Lib.hid (B.out.trans (b.mono B.out.size));clear b)
   | (go_at_call 64;refine (l3All_any _ x.lat fp1 _ _ _ G1.out).mono ?_;rw [Q2.out];rintro e w3 ⟨rfl,rfl⟩))
 any_goals
  go_ret;refine ⟨ret_bool ?_,B.out⟩;unfold busOk;rw [H1.out,H2.out,Q0.out]
  (try rw [Q1.out])
  (try rw [Q2.out])
  (try rw [Q3.out])
  rfl
 have n23:n2=3:=by have:=eq_of_beq Q3.out;omega
 subst n23;obtain ⟨a',n',cap',e,_,_,_,_,r⟩:=G2.out.opened;simp only [Value.slice.injEq] at e;obtain ⟨rfl,rfl,rfl⟩:=e;have HN:Hid (x.progs.length=3):=hn2;clear hn2 G0 G1 X1 q1 q3
 go_loopw [3] (fun i wr=>∃ k:Nat,k<=3∧i = .int .i64 k∧(∀ j (h:j<x.progs.length),j<k->progOk x.progs[j]=true)∧Below w2.heap.size w2 wr) (fun i _=>3 - (intOf i).toNat)
 case atStart=>exact ⟨0,Nat.zero_le _,rfl,fun j _ h=>absurd h (Nat.not_lt_zero j),Below.refl _ _⟩
 case round =>
  obtain ⟨k,hk,rfl,hp,hb⟩:=hrel;have HP:=Lib.hid hp;have HB:=Lib.hid hb;have HBw:=Lib.hid (B.out.trans (hb.mono B.out.size));clear hp;replace X2:=keep_cell hb X2;by_cases hlt:k<3
  ·obtain ⟨i1,b1,o1,f1,cs,rfl,hb1,_,_,⟨y,rfl,hy⟩,e1⟩:=r k hlt;have c0:=(hb.cell (p:=⟨b1,o1+k*1+0,none⟩) hb1).trans (e1 0 (by simp));simp only [Nat.mul_one,Nat.add_zero,List.getElem_cons_zero] at c0;have GY:=Lib.hid (SlR.below reqR_fits hy hb);obtain ⟨a3,n3,c3,rfl,hn3,_,_,_,_⟩:=hy.opened;have H3:=Lib.hid (show decide (x.progs[k].length<=12) = !decide (12<(n3:Int)) by rw [hn3.out,Bool.eq_iff_iff];simp;omega);clear r e1 hb hy hn3;cases q3:decide (12<(n3:Int))
   case' true=>have h3:12<(n3:Int):=of_decide_eq_true q3
   case' false =>
    have h3:(n3:Int)<=12:=by have:=of_decide_eq_false q3;omega
    cases q4:x.progs[k].all reqOk
   all_goals
    have Q3:=Lib.hid q3
    (try have Q4:=Lib.hid q4)
    (try clear q4)
    go_wp2_with (go_at_call 65;refine (l4Prog_any x.progs[k] _ _ _ GY.out).mono ?_;rw [Q4.out];rintro e w4 ⟨rfl,b⟩;replace HBw:=Lib.hid (HBw.out.trans (b.mono HBw.out.size));replace HB:=Lib.hid (HB.out.trans (b.mono HB.out.size));replace X2:=keep_cell b X2;clear b)
   all_goals
    first
     | (go_ret
        exact ⟨ret_bool (by
         symm;unfold busOk;have:x.progs.all progOk=false:=by
          rw [List.all_eq_false];refine ⟨x.progs[k],List.getElem_mem i1,?_⟩;unfold progOk;rw [H3.out,Q3.out]
          (try rw [Q4.out])
          simp
         rw [this];simp),HBw.out⟩)
     | (go_roundw
        case rel =>
         (repeat apply Exists.intro)
         exact ⟨⟨k+1,by omega,by go_num,fun j h hj=>(by
          by_cases e:j=k
          ·subst e;unfold progOk;rw [H3.out,Q3.out,Q4.out];rfl
          ·exact HP.out j h (by omega)),HB.out⟩,rfl⟩
        case measure=>simp [intOf];omega)
  ·clear r hb;go_wp2;go_ret;exact ⟨ret_bool (by
    unfold busOk;have:x.progs.all progOk=true:=by
     rw [List.all_eq_true];intro x hx;obtain ⟨j,hj,rfl⟩:=List.mem_iff_getElem.1 hx;exact HP.out j hj (by rw [HN.out] at hj;omega)
    rw [this,H1.out,H2.out,Q0.out,Q1.out,Q2.out,Q3.out];rfl),HBw.out⟩
end Go.Proofs.Ytmcjklicepaiaaa
namespace Go.Proofs.Ytmcjklicepaiaaa
open Go.RowKit Go.ChangeShapes
structure Ev where
 kind:Int
 who:Int
 n:Int
 deriving DecidableEq
end Go.Proofs.Ytmcjklicepaiaaa
namespace Go.Proofs.Ytmcjklicepaiaaa
open Go.RowKit Go.WideShapes
variable {P:Program}
theorem wpList_push {ops:Array Oper} {rest:List Oper} {o:Oper} {a:Act} {Q:Exit->Act->World->Prop} {w:World} {W:World} {base n:Nat} {v:Value} {xs:List Value} {news:List Value}
 (hgd:o.guard=none) (s x:Operand) (t e:TypeId) (i:TypeInfo) (z:Value) (size bytes:Nat) (T:TypeId)
 (ho:o.op = .call { callee:=.builtin .append,args := #[s,x],argTypes := #[t,t] })
 (ht:P.underlying t=some (.slice e)) (hi:P.info? e=some i) (hz:i.zero=some z) (hsize:i.size=size) (hby:i.bytes=bytes) (hzs:z.cells.size=size) (hsz:0<size) (hb8:bytes<=64)
 (hs:a.eval s=v) (hx:a.eval x = .slice (some ⟨w.heap.size,0,none⟩) 1 1) (hown:w.ownsRow base e size v n xs) (hl:news.length=size) (h1:∀ u∈news,u.oneCell'=true)
 (hn:n<=2000000) (hbel:Below W.heap.size W w) (hW:W.heap.size<=base) (hbase:base<=w.heap.size)
 (h:∀ v' w',w'.ownsRow base e size v' (n+1) (xs++news)->Below W.heap.size W w'->w.heap.size<=w'.heap.size->w.grownBy w' v.ownBlock->wpList P ops Q rest (a.put o.dst v') w') :
 wpList P ops Q (o::rest) a (w.alloc (.cells news.toArray T)):=by
 refine wpList_append_own _ hgd s x t ho base e i z size bytes ht hi hz hsize hby hzs hsz v n xs hs (hown.alloc _) ⟨w.heap.size,0,none⟩ 1 1 news hx (by simpa using hl) ?_ h1 (by unfold maxLen;omega) ?_ (by simp;omega) ?_
 ·intro j u hj;rw [add_plain,Nat.zero_add];exact alloc1_new w _ _ j (by simpa using hj)
 ·have:(n+1)*bytes<=2000001*64:=Nat.mul_le_mul (by omega) hb8;omega
 ·intro v' w' hown' hgr _;have hz1:w.heap.size<=w'.heap.size:=by have:=hgr.size;simp at this;omega
  have hg':w.grownBy w' v.ownBlock:=⟨hgr.os,hgr.tape,hgr.output,hz1,fun k hk hne=>(hgr.block k (by simp;omega) hne).trans (Below.heap_alloc _ _ _ hk)⟩;exact h v' w' hown' (hbel.grown hg' hbel.size (fun k hk=>by have:=(hown.lt k hk).1;omega)) hz1 hg'
end Go.Proofs.Ytmcjklicepaiaaa
