/-
 Texts of this claim laid together: Req Bus MapOk ReqOk.
-/
import Derived.OwnWalk
import Derived.KernelRfl
import Derived.WalkSmall
import Derived.Test.YtmcjklicepaiaaaPk07
import Derived.Deep.QuietTactic
import Derived.BigQuiet
import Derived.StillTailTactics
set_option linter.unusedVariables false
set_option linter.unusedSimpArgs false
namespace Go.Proofs.Ytmcjklicepaiaaa
open Go.RowKit Go.ChangeShapes
structure Req where
 id:Int
 kind:Int
 addr:Int
 many:Int
 wrap:Bool
 data:List Int
 lanes:List Int
 deriving DecidableEq
def reqR:Pr Req:=fun w x cs fp=>∃ (v0 v1:Value) (fp0 fp1:List Nat),cs=[.int .i64 x.id,.int .i64 x.kind,.int .i64 x.addr,.int .i64 x.many,.bool x.wrap,v0,v1]∧fp=fp0++fp1∧SlR 1 intR w x.data v0 fp0∧SlR 1 intR w x.lanes v1 fp1
theorem reqR_fits:Fits 7 reqR:=by
 refine ⟨fun ⟨v0,v1,fp0,fp1,e,e2,g0,g1⟩=>by rw [e];rfl,fun ⟨v0,v1,fp0,fp1,e,e2,g0,g1⟩ b hb=>?_,fun ⟨v0,v1,fp0,fp1,e,e2,g0,g1⟩ hs hz=>⟨v0,v1,fp0,fp1,e,e2,g0.same intR_fits (hs.mono (fun b hb=>by rw [e2];simp [hb])) hz,g1.same intR_fits (hs.mono (fun b hb=>by rw [e2];simp [hb])) hz⟩⟩;rw [e2] at hb;simp only [List.mem_append] at hb;rcases hb with (hb|hb)
 ·exact g0.lt intR_fits b hb
 ·exact g1.lt intR_fits b hb
end Go.Proofs.Ytmcjklicepaiaaa
namespace Go.Proofs.Ytmcjklicepaiaaa
open Go.RowKit Go.ChangeShapes
structure Bus where
 map:List MR
 lat:List Int
 progs:List (List Req)
 deriving DecidableEq
end Go.Proofs.Ytmcjklicepaiaaa
namespace Go.Proofs.Ytmcjklicepaiaaa
open Go.RowKit
def meets (r q:MR):Bool:=decide (q.fr<=r.to) && decide (r.fr<=q.to)
theorem mapOk1_any (cb:Nat) (r x:MR) (w:World) (h0:w.cell? ⟨cb,0,none⟩=some (.int .i64 r.fr)) (h1:w.cell? ⟨cb,1,none⟩=some (.int .i64 r.to)) :
 Calls Try.prog 54 #[.agg #[.int .i64 x.fr,.int .i64 x.to,.int .i64 x.sl,.bool x.only],.pointer (some ⟨cb,0,none⟩)] w fun e w'=>e = .returned (.bool (meets r x))∧Below w.heap.size w w':=by
 have hlt:cb<w.heap.size:=block_of_cell h0;have HM:Hid (meets r x=(decide (x.fr<=r.to) && decide (r.fr<=x.to))):=Lib.hid rfl;cases q0:decide (x.fr<=r.to)
 all_goals cases q1:decide (r.fr<=x.to)
 all_goals
  have H0:=Lib.hid q0;have H1:=Lib.hid q1;go_enter Try.func54,Try.ntmps54
  go_wp2;go_ret;exact ⟨ret_bool (by rw [HM.out,H0.out,H1.out];rfl),below_alloc _ _⟩
theorem indexMeets (cb:Nat) (y:MR) (v:Value) (l:List MR) (fp:List Nat) (w:World) (hcap0:w.cell? ⟨cb,0,none⟩=some (.int .i64 y.fr)) (hcap1:w.cell? ⟨cb,1,none⟩=some (.int .i64 y.to)) (g:SlR 4 mrR w l v fp) :
 Calls Try.prog 105 #[v,.func (.func 54) #[] #[.pointer (some ⟨cb,0,none⟩)]] w fun e w'=>e = .returned (.int .i64 (idxOf (meets y) l))∧Below w.heap.size w w':=by
 obtain ⟨a,n,c,rfl,hn,hcap,hmax,hcm,r⟩:=g.opened;have G:=Lib.hid g;clear g;go_enter Try.func105,Try.ntmps105
 go_wp2_with fail
 go_loopw [8] (fun i wr=>∃ k:Nat,k<=n∧i = .int .i64 k∧(∀ j (h:j<l.length),j<k->(meets y) l[j]=false)∧Below w.heap.size w wr) (fun i _=>n - (intOf i).toNat)
 case atStart=>exact ⟨0,Nat.zero_le _,rfl,fun j _ h=>absurd h (Nat.not_lt_zero j),Below.refl _ _⟩
 case round =>
  obtain ⟨k,hk,rfl,hp,hb⟩:=hrel;have HP:=Lib.hid hp;have HB:=Lib.hid hb;clear hp;by_cases hlt:k<n
  ·obtain ⟨i1,b1,o1,f1,cs,rfl,hb1,hbf,hff,hR,e1⟩:=r k hlt;have HR:=Lib.hid hR;obtain ⟨rfl,rfl⟩:=hR;have c0:=(hb.cell (p:=⟨b1,o1+k*4+0,none⟩) hb1).trans (e1 0 (by simp));have c1:=(hb.cell (p:=⟨b1,o1+k*4+1,none⟩) hb1).trans (e1 1 (by simp));have c2:=(hb.cell (p:=⟨b1,o1+k*4+2,none⟩) hb1).trans (e1 2 (by simp));have c3:=(hb.cell (p:=⟨b1,o1+k*4+3,none⟩) hb1).trans (e1 3 (by simp));simp only [Nat.add_zero,List.getElem_cons_zero,List.getElem_cons_succ] at c0 c1 c2 c3;clear r e1 hb hbf hff;have hk0:=keep_cell HB.out hcap0;have hk1:=keep_cell HB.out hcap1;go_wp2_with fail
   refine (mapOk1_any cb y l[k] _ hk0 hk1).mono ?_;rintro e w2 ⟨rfl,b2⟩;have HB2:=Lib.hid (HB.out.trans (b2.mono HB.out.size));clear b2 c0 c1 c2 c3;cases hq:(meets y) l[k]
   ·have HQ:=Lib.hid hq;clear hq;go_wp2
    go_roundw
    case rel=>exact ⟨k+1,by omega,by go_num,fun j h hj=>(by
     by_cases e:j=k
     ·subst e;exact HQ.out
     ·exact HP.out j h (by omega)),HB2.out⟩
    case measure=>simp [intOf];omega
   ·have HQ:=Lib.hid hq;clear hq;go_wp2;go_ret;exact ⟨ret_int (idxOf_hit i1 HQ.out (fun j h hj=>HP.out j h hj)).symm,HB2.out⟩
  ·clear r hb;go_wp2;go_ret;exact ⟨ret_int (idxOf_none (fun j h=>HP.out j h (by rw [hn.out] at h;omega))).symm,HB.out⟩
theorem containsMeets (cb:Nat) (y:MR) (v:Value) (l:List MR) (fp:List Nat) (w:World) (hcap0:w.cell? ⟨cb,0,none⟩=some (.int .i64 y.fr)) (hcap1:w.cell? ⟨cb,1,none⟩=some (.int .i64 y.to)) (g:SlR 4 mrR w l v fp) :
 Calls Try.prog 53 #[v,.func (.func 54) #[] #[.pointer (some ⟨cb,0,none⟩)]] w fun e w'=>e = .returned (.bool (l.any (meets y)))∧Below w.heap.size w w':=by
 go_enter Try.func53,Try.ntmps53
 go_wp2_with fail
 refine (indexMeets cb y v l fp _ hcap0 hcap1 g).mono ?_;rintro e w' ⟨rfl,hb⟩;have HB:=Lib.hid hb;clear hb;cases hq:decide (0<=idxOf (meets y) l)
 all_goals
  go_wp2;go_ret;exact ⟨ret_bool (by rw [<- idxOf_any,hq]),HB.out⟩
def rowOk (l:List MR) (k:Nat) (h:k<l.length):Bool:=inB l[k].fr 0 63 && (inB l[k].to l[k].fr 63 && (inB l[k].sl 0 2 && !(l.take k).any (meets l[k])))
def mapOk (l:List MR):Bool:=decide (l.length<=4) && decide (∀ k (h:k<l.length),rowOk l k h=true)
theorem mapOk_no {l:List MR} {k:Nat} (h:k<l.length) (hr:rowOk l k h=false):mapOk l=false:=by
 unfold mapOk;rw [decide_eq_false (p:=∀ k (h:k<l.length),rowOk l k h=true) (fun hh=>by rw [hh k h] at hr;exact absurd hr (by simp))];simp
theorem mapOk_yes {l:List MR} (hr:∀ k (h:k<l.length),rowOk l k h=true):mapOk l=decide (l.length<=4):=by
 unfold mapOk;rw [decide_eq_true (p:=∀ k (h:k<l.length),rowOk l k h=true) hr];simp
set_option maxRecDepth 100000 in
set_option maxHeartbeats 1600000 in
theorem iMapOk_any (v:Value) (l:List MR) (fp:List Nat) (w:World) (g:SlR 4 mrR w l v fp) :
 Calls Try.prog 14 #[v] w fun e w'=>e = .returned (.bool (mapOk l))∧Below w.heap.size w w':=by
 obtain ⟨a,n,c,rfl,hn,hcap,hmax,hcm,r⟩:=g.opened;have G:=Lib.hid g;clear g;go_enter Try.func14,Try.ntmps14
 go_wp2_with fail
 go_loopw [7] (fun i wr=>∃ k:Nat,k<=n∧i = .int .i64 k∧(∀ j (h:j<l.length),j<k->rowOk l j h=true)∧Below w.heap.size w wr) (fun i _=>n - (intOf i).toNat)
 case atStart=>exact ⟨0,Nat.zero_le _,rfl,fun j _ h=>absurd h (Nat.not_lt_zero j),Below.refl _ _⟩
 case round =>
  obtain ⟨k,hk,rfl,hp,hb⟩:=hrel;have HP:=Lib.hid hp;have HB:=Lib.hid hb;clear hp;by_cases hlt:k<n
  ·obtain ⟨i1,b1,o1,f1,cs,rfl,hb1,_,_,⟨rfl,rfl⟩,e1⟩:=r k hlt;have c0:=(hb.cell (p:=⟨b1,o1+k*4+0,none⟩) hb1).trans (e1 0 (by simp));have c1:=(hb.cell (p:=⟨b1,o1+k*4+1,none⟩) hb1).trans (e1 1 (by simp));have c2:=(hb.cell (p:=⟨b1,o1+k*4+2,none⟩) hb1).trans (e1 2 (by simp));have c3:=(hb.cell (p:=⟨b1,o1+k*4+3,none⟩) hb1).trans (e1 3 (by simp));simp only [Nat.add_zero,List.getElem_cons_zero,List.getElem_cons_succ] at c0 c1 c2 c3;clear r e1 hb;have hba:Below w.heap.size w (wr.alloc (.cells #[.int .i64 l[k].fr,.int .i64 l[k].to,.int .i64 l[k].sl,.bool l[k].only] 31)):=HB.out.alloc HB.out.size _;obtain ⟨fq,gq,_⟩:=(SlR.below mrR_fits G.out hba).take k hk;have GQ:=Lib.hid gq;have HBa:=Lib.hid hba;have d0:=Lib.hid (alloc1_new wr #[.int .i64 l[k].fr,.int .i64 l[k].to,.int .i64 l[k].sl,.bool l[k].only] 31 0 rfl);have d1:=Lib.hid (alloc1_new wr #[.int .i64 l[k].fr,.int .i64 l[k].to,.int .i64 l[k].sl,.bool l[k].only] 31 1 rfl);clear hba gq;cases p0:inB l[k].fr 0 63
   ·have P0:=Lib.hid p0;clear p0;go_wp2_with fail
    refine (in_any _ _ _ _).mono ?_;rw [P0.out];rintro e w' ⟨rfl,rfl⟩;go_wp2;go_ret;exact ⟨ret_bool (mapOk_no i1 (by unfold rowOk;rw [P0.out];rfl)).symm,HBa.out⟩
   ·have P0:=Lib.hid p0;clear p0;cases p1:inB l[k].to l[k].fr 63
    ·have P1:=Lib.hid p1;clear p1;go_wp2_with fail
     refine (in_any _ _ _ _).mono ?_;rw [P0.out];rintro e w' ⟨rfl,rfl⟩;go_wp2_with fail
     refine (in_any _ _ _ _).mono ?_;rw [P1.out];rintro e w' ⟨rfl,rfl⟩;go_wp2;go_ret;exact ⟨ret_bool (mapOk_no i1 (by unfold rowOk;rw [P0.out,P1.out];rfl)).symm,HBa.out⟩
    ·have P1:=Lib.hid p1;clear p1;cases p2:inB l[k].sl 0 2
     ·have P2:=Lib.hid p2;clear p2;go_wp2_with fail
      refine (in_any _ _ _ _).mono ?_;rw [P0.out];rintro e w' ⟨rfl,rfl⟩;go_wp2_with fail
      refine (in_any _ _ _ _).mono ?_;rw [P1.out];rintro e w' ⟨rfl,rfl⟩;go_wp2_with fail
      refine (in_any _ _ _ _).mono ?_;rw [P2.out];rintro e w' ⟨rfl,rfl⟩;go_wp2;go_ret;exact ⟨ret_bool (mapOk_no i1 (by unfold rowOk;rw [P0.out,P1.out,P2.out];rfl)).symm,HBa.out⟩
     ·have P2:=Lib.hid p2;clear p2;cases p3:(l.take k).any (meets l[k])
      ·have P3:=Lib.hid p3;clear p3;go_wp2_with fail
       refine (in_any _ _ _ _).mono ?_;rw [P0.out];rintro e w' ⟨rfl,rfl⟩;go_wp2_with fail
       refine (in_any _ _ _ _).mono ?_;rw [P1.out];rintro e w' ⟨rfl,rfl⟩;go_wp2_with fail
       refine (in_any _ _ _ _).mono ?_;rw [P2.out];rintro e w' ⟨rfl,rfl⟩;go_wp2_with fail
       refine (containsMeets _ l[k] _ (l.take k) fq _ d0.out d1.out GQ.out).mono ?_;rw [P3.out];rintro e w2 ⟨rfl,b2⟩;have HB2:=Lib.hid (HBa.out.trans (b2.mono HBa.out.size));clear b2;go_wp2
       go_roundw
       case rel=>exact ⟨k+1,by omega,by go_num,fun j h hj=>(by
        by_cases e:j=k
        ·subst e;unfold rowOk;rw [P0.out,P1.out,P2.out,P3.out];rfl
        ·exact HP.out j h (by omega)),HB2.out⟩
       case measure=>simp [intOf];omega
      ·have P3:=Lib.hid p3;clear p3;go_wp2_with fail
       refine (in_any _ _ _ _).mono ?_;rw [P0.out];rintro e w' ⟨rfl,rfl⟩;go_wp2_with fail
       refine (in_any _ _ _ _).mono ?_;rw [P1.out];rintro e w' ⟨rfl,rfl⟩;go_wp2_with fail
       refine (in_any _ _ _ _).mono ?_;rw [P2.out];rintro e w' ⟨rfl,rfl⟩;go_wp2_with fail
       refine (containsMeets _ l[k] _ (l.take k) fq _ d0.out d1.out GQ.out).mono ?_;rw [P3.out];rintro e w2 ⟨rfl,b2⟩;have HB2:=Lib.hid (HBa.out.trans (b2.mono HBa.out.size));clear b2;go_wp2;go_ret;exact ⟨ret_bool (mapOk_no i1 (by unfold rowOk;rw [P0.out,P1.out,P2.out,P3.out];rfl)).symm,HB2.out⟩
  ·clear r hb;go_wp2;go_ret;exact ⟨ret_bool (by rw [mapOk_yes (fun j h=>HP.out j h (by rw [hn.out] at h;omega)),hn.out];exact decide_eq_decide.2 (by omega)),HB.out⟩
theorem rowOk_spec {l:List MR} {k:Nat} (h:k<l.length):rowOk l k h=(inB l[k].fr 0 l[k].to && (!decide (63<l[k].to) && (inB l[k].sl 0 2 && !(l.take k).any (meets l[k])))):=by
 unfold rowOk inB;rw [Bool.eq_iff_iff];simp only [Bool.and_eq_true,decide_eq_true_eq,Bool.not_eq_true',decide_eq_false_iff_not];constructor
 ·rintro ⟨⟨h1,h2⟩,⟨h3,h4⟩,h5⟩;exact ⟨⟨h1,by omega⟩,by omega,h5⟩
 ·rintro ⟨⟨h1,h2⟩,h3,h5⟩;exact ⟨⟨h1,by omega⟩,⟨by omega,by omega⟩,h5⟩
set_option maxRecDepth 100000 in
set_option maxHeartbeats 1600000 in
theorem sMapOk_any (v:Value) (l:List MR) (fp:List Nat) (w:World) (g:SlR 4 mrR w l v fp) :
 Calls Try.prog 48 #[v] w fun e w'=>e = .returned (.bool (mapOk l))∧Below w.heap.size w w':=by
 obtain ⟨a,n,c,rfl,hn,hcap,hmax,hcm,r⟩:=g.opened;have G:=Lib.hid g;clear g;by_cases h4:4<n
 ·clear r;go_enter Try.func48,Try.ntmps48
  go_wp2;go_ret;exact ⟨ret_bool (by unfold mapOk;rw [decide_eq_false (p:=l.length<=4) (by rw [hn.out];omega)];rfl),Below.refl _ _⟩
 have h4':decide (4<(n:Int))=false:=decide_eq_false (by omega);go_enter Try.func48,Try.ntmps48
 go_wp2_with fail
 go_loopw [3] (fun i wr=>∃ k:Nat,k<=n∧i = .int .i64 k∧(∀ j (h:j<l.length),j<k->rowOk l j h=true)∧Below w.heap.size w wr) (fun i _=>n - (intOf i).toNat)
 case atStart=>exact ⟨0,Nat.zero_le _,rfl,fun j _ h=>absurd h (Nat.not_lt_zero j),Below.refl _ _⟩
 case round =>
  obtain ⟨k,hk,rfl,hp,hb⟩:=hrel;have HP:=Lib.hid hp;have HB:=Lib.hid hb;clear hp;by_cases hlt:k<n
  ·obtain ⟨i1,b1,o1,f1,cs,rfl,hb1,_,_,⟨rfl,rfl⟩,e1⟩:=r k hlt;have c0:=(hb.cell (p:=⟨b1,o1+k*4+0,none⟩) hb1).trans (e1 0 (by simp));have c1:=(hb.cell (p:=⟨b1,o1+k*4+1,none⟩) hb1).trans (e1 1 (by simp));have c2:=(hb.cell (p:=⟨b1,o1+k*4+2,none⟩) hb1).trans (e1 2 (by simp));have c3:=(hb.cell (p:=⟨b1,o1+k*4+3,none⟩) hb1).trans (e1 3 (by simp));simp only [Nat.add_zero,List.getElem_cons_zero,List.getElem_cons_succ] at c0 c1 c2 c3;clear e1 hb;have hba:Below w.heap.size w (wr.alloc (.cells #[.int .i64 l[k].fr,.int .i64 l[k].to,.int .i64 l[k].sl,.bool l[k].only] 31)):=HB.out.alloc HB.out.size _;have HBa:=Lib.hid hba;have d0:=alloc1_new wr #[.int .i64 l[k].fr,.int .i64 l[k].to,.int .i64 l[k].sl,.bool l[k].only] 31 0 rfl;have d1:=alloc1_new wr #[.int .i64 l[k].fr,.int .i64 l[k].to,.int .i64 l[k].sl,.bool l[k].only] 31 1 rfl;clear hba d0 d1;cases p0:inB l[k].fr 0 l[k].to
   ·have P0:=Lib.hid p0;clear p0 r;go_wp2_with fail
    refine (l1In_any _ _ _ _).mono ?_;rw [P0.out];rintro e w' ⟨rfl,rfl⟩;go_wp2;go_ret;exact ⟨ret_bool (mapOk_no i1 (by rw [rowOk_spec,P0.out];rfl)).symm,HBa.out⟩
   have P0:=Lib.hid p0;clear p0;cases p1:decide (63<l[k].to)
   case' true =>
    have P1:=Lib.hid p1;clear r;go_wp2_with fail
    refine (l1In_any _ _ _ _).mono ?_;rw [P0.out];rintro e w' ⟨rfl,rfl⟩;go_wp2;go_ret;exact ⟨ret_bool (mapOk_no i1 (by rw [rowOk_spec,P0.out,P1.out];rfl)).symm,HBa.out⟩
   have P1:=Lib.hid p1;cases p2:inB l[k].sl 0 2
   ·have P2:=Lib.hid p2;clear p2 r;go_wp2_with fail
    refine (l1In_any _ _ _ _).mono ?_;rw [P0.out];rintro e w' ⟨rfl,rfl⟩;go_wp2_with fail
    refine (l1In_any _ _ _ _).mono ?_;rw [P2.out];rintro e w' ⟨rfl,rfl⟩;go_wp2;go_ret;exact ⟨ret_bool (mapOk_no i1 (by rw [rowOk_spec,P0.out,P1.out,P2.out];rfl)).symm,HBa.out⟩
   have P2:=Lib.hid p2;clear p2;go_wp2_with fail
   refine (l1In_any _ _ _ _).mono ?_;rw [P0.out];rintro e w' ⟨rfl,rfl⟩;go_wp2_with fail
   refine (l1In_any _ _ _ _).mono ?_;rw [P2.out];rintro e w' ⟨rfl,rfl⟩;go_wp2_with fail
   obtain ⟨W,hW⟩:∃ W,W=wr.alloc (.cells #[.int .i64 l[k].fr,.int .i64 l[k].to,.int .i64 l[k].sl,.bool l[k].only] 31):=⟨_,rfl⟩;have x0:W.cell? ⟨wr.heap.size,0,none⟩=some (.int .i64 l[k].fr):=by rw [hW];exact alloc1_new wr _ _ 0 rfl
   have x1:W.cell? ⟨wr.heap.size,1,none⟩=some (.int .i64 l[k].to):=by rw [hW];exact alloc1_new wr _ _ 1 rfl
   have HBw:Hid (Below w.heap.size w W):=Lib.hid (by rw [hW];exact HBa.out);rw [<- hW];clear hW HBa c0 c1 c2 c3
   go_loopw [5] (fun i wr2=>∃ j:Nat,j<=k∧i = .int .i64 j∧(∀ q (h:q<l.length),q<j->meets l[k] l[q]=false)∧∃ m,wr2=W.drewN m) (fun i _=>k - (intOf i).toNat)
   case atStart=>exact ⟨0,Nat.zero_le _,rfl,fun j _ h=>absurd h (Nat.not_lt_zero j),0,rfl⟩
   case round =>
    obtain ⟨j,hj,rfl,hm,m,rfl⟩:=hrel;have HM:=Lib.hid hm;clear hm;by_cases hjk:j<k
    ·obtain ⟨i2,b2,o2,f2,cs2,e2,hb2,_,_,⟨rfl,rfl⟩,e3⟩:=r j (by omega);obtain ⟨rfl,rfl⟩:b1=b2∧o1=o2:=by simpa using e2
     have y0:=(HBw.out.cell (p:=⟨b1,o1+j*4+0,none⟩) hb1).trans (e3 0 (by simp));have y1:=(HBw.out.cell (p:=⟨b1,o1+j*4+1,none⟩) hb1).trans (e3 1 (by simp));simp only [Nat.add_zero,List.getElem_cons_zero,List.getElem_cons_succ] at y0 y1;have hjn:(j:Int)<(n:Int):=by omega
     have HE:Hid (meets l[k] l[j]=(decide (l[j].fr<=l[k].to) && decide (l[k].fr<=l[j].to))):=Lib.hid rfl;clear e3 e2 r;cases t0:decide (l[k].fr<=l[j].to)
     case' true =>
      cases t1:decide (l[j].fr<=l[k].to)
      case' true =>
       have T0:=Lib.hid t0;have T1:=Lib.hid t1;go_wp2_with fail
       go_quiet (fail)
       go_wp2;go_ret;exact ⟨ret_bool (mapOk_no i1 (by
        rw [rowOk_spec,P0.out,P1.out,P2.out];have:(l.take k).any (meets l[k])=true:=List.any_eq_true.2 ⟨l[j],List.mem_take_iff_getElem.2 ⟨j,by omega,rfl⟩,by rw [HE.out,T0.out,T1.out];rfl⟩;rw [this];rfl)).symm,by (try simp only [World.drewN_drewN]);exact below_drewN HBw.out _⟩
      have T1:=Lib.hid t1
     all_goals
      have T0:=Lib.hid t0;go_wp2_with fail
      go_quiet (fail)
      go_wp2
      go_roundw
      case rel=>exact ⟨j+1,by omega,by go_num,fun q h hq=>(by
       by_cases e:q=j
       ·subst e;rw [HE.out];first|rw [T1.out];rfl|(rw [T0.out];simp)
       ·exact HM.out q h (by omega)),by (try simp only [World.drewN_drewN]);exact ⟨_,rfl⟩⟩
      case measure=>simp [intOf];omega
    ·obtain rfl:j=k:=by omega
     clear r;go_wp2
     go_roundw
     case rel=>exact ⟨j+1,by omega,by go_num,fun q h hq=>(by
      by_cases e:q=j
      ·subst e;rw [rowOk_spec,P0.out,P1.out,P2.out];have:(l.take q).any (meets l[q])=false:=by
        rw [List.any_eq_false];intro x hx;obtain ⟨i,hi,rfl⟩:=List.getElem_of_mem hx;rw [List.getElem_take];have:=HM.out i (by simp at hi;omega) (by simp at hi;omega);simp [this]
       rw [this];rfl
      ·exact HP.out q h (by omega)),below_drewN HBw.out _⟩
     case measure=>simp [intOf];omega
  ·clear r hb;go_wp2;go_ret;exact ⟨ret_bool (by rw [mapOk_yes (fun j h=>HP.out j h (by rw [hn.out] at h;omega)),hn.out];exact (decide_eq_true (by omega)).symm),HB.out⟩
end Go.Proofs.Ytmcjklicepaiaaa
namespace Go.Proofs.Ytmcjklicepaiaaa
open Go.RowKit
def writesB (x:Req):Bool:=x.kind == 2 || x.kind == 4
def manyOf (x:Req):Int:=if writesB x then x.many else 0
def reqOk (x:Req):Bool :=
 inB x.id 0 1 && (inB x.kind 1 4 && (adrOk x.addr x.many x.wrap && (((x.data.length:Int) == manyOf x) && (((x.lanes.length:Int) == manyOf x) && (allIn x.data 0 65535 && (allIn x.lanes 0 3 && (x.kind == 1 || x.kind == 2 || x.many == 1)))))))
def noLane (n:Int):Bool := !inB n 0 3
theorem noLane_any (n:Int) (w:World):Calls Try.prog 100 #[.int .i64 n] w fun e w'=>e = .returned (.bool (noLane n))∧Below w.heap.size w w':=by
 go_enter Try.func100,Try.ntmps100
 go_wp2_with fail
 refine (in_any _ _ _ _).mono ?_;rintro e w' ⟨rfl,rfl⟩;go_wp2;go_ret;exact ⟨rfl,Below.refl _ _⟩
theorem indexLane  (v:Value) (l:List Int) (fp:List Nat) (w:World)  (g:SlR 1 intR w l v fp) :
 Calls Try.prog 108 #[v,.func (.func 100) #[] #[]] w fun e w'=>e = .returned (.int .i64 (idxOf noLane l))∧Below w.heap.size w w':=by
 obtain ⟨a,n,c,rfl,hn,hcap,hmax,hcm,r⟩:=g.opened;have G:=Lib.hid g;clear g;go_enter Try.func108,Try.ntmps108
 go_wp2_with fail
 go_loopw [8] (fun i wr=>∃ k:Nat,k<=n∧i = .int .i64 k∧(∀ j (h:j<l.length),j<k->noLane l[j]=false)∧Below w.heap.size w wr) (fun i _=>n - (intOf i).toNat)
 case atStart=>exact ⟨0,Nat.zero_le _,rfl,fun j _ h=>absurd h (Nat.not_lt_zero j),Below.refl _ _⟩
 case round =>
  obtain ⟨k,hk,rfl,hp,hb⟩:=hrel;have HP:=Lib.hid hp;have HB:=Lib.hid hb;clear hp;by_cases hlt:k<n
  ·obtain ⟨i1,b1,o1,f1,cs,rfl,hb1,hbf,hff,hR,e1⟩:=r k hlt;have HR:=Lib.hid hR;obtain ⟨rfl,rfl⟩:=hR;have c0:=(hb.cell (p:=⟨b1,o1+k*1+0,none⟩) hb1).trans (e1 0 (by simp));simp only [Nat.mul_one,Nat.add_zero,List.getElem_cons_zero] at c0;clear r e1 hb hbf hff;go_wp2_with fail
   refine (noLane_any l[k] _).mono ?_;rintro e w2 ⟨rfl,b2⟩;have HB2:=Lib.hid (HB.out.trans (b2.mono HB.out.size));clear b2 c0;cases hq:noLane l[k]
   ·have HQ:=Lib.hid hq;clear hq;go_wp2
    go_roundw
    case rel=>exact ⟨k+1,by omega,by go_num,fun j h hj=>(by
     by_cases e:j=k
     ·subst e;exact HQ.out
     ·exact HP.out j h (by omega)),HB2.out⟩
    case measure=>simp [intOf];omega
   ·have HQ:=Lib.hid hq;clear hq;go_wp2;go_ret;exact ⟨ret_int (idxOf_hit i1 HQ.out (fun j h hj=>HP.out j h hj)).symm,HB2.out⟩
  ·clear r hb;go_wp2;go_ret;exact ⟨ret_int (idxOf_none (fun j h=>HP.out j h (by rw [hn.out] at h;omega))).symm,HB.out⟩
theorem containsLane  (v:Value) (l:List Int) (fp:List Nat) (w:World)  (g:SlR 1 intR w l v fp) :
 Calls Try.prog 58 #[v,.func (.func 100) #[] #[]] w fun e w'=>e = .returned (.bool (l.any noLane))∧Below w.heap.size w w':=by
 go_enter Try.func58,Try.ntmps58
 go_wp2_with fail
 refine (indexLane  v l fp _  g).mono ?_;rintro e w' ⟨rfl,hb⟩;have HB:=Lib.hid hb;clear hb;cases hq:decide (0<=idxOf noLane l)
 all_goals
  go_wp2;go_ret;exact ⟨ret_bool (by rw [<- idxOf_any,hq]),HB.out⟩
theorem lanes_eq (l:List Int):l.any noLane = !allIn l 0 3:=by
 unfold allIn;rw [List.all_eq_not_any_not];simp only [Bool.not_not];rfl
theorem writes_any (x:Req) (v0 v1:Value) (w:World) :
 Calls Try.prog 98 #[.agg #[.int .i64 x.id,.int .i64 x.kind,.int .i64 x.addr,.int .i64 x.many,.bool x.wrap,v0,v1]] w fun e w'=>e = .returned (.bool (writesB x))∧Below w.heap.size w w':=by
 have HB:=Lib.hid (below_alloc w (.cells #[.int .i64 x.id,.int .i64 x.kind,.int .i64 x.addr,.int .i64 x.many,.bool x.wrap,v0,v1] 26));have HW:Hid (writesB x=(x.kind == 2 || x.kind == 4)):=Lib.hid rfl;cases q2:x.kind == 2
 all_goals cases q4:x.kind == 4
 all_goals
  have Q2:=Lib.hid q2;have Q4:=Lib.hid q4;go_enter Try.func98,Try.ntmps98
  go_wp2;go_ret;exact ⟨ret_bool (by rw [HW.out,Q2.out,Q4.out];rfl),HB.out⟩
theorem l3Writes_any (x:Req) (v0 v1:Value) (w:World) :
 Calls Try.prog 103 #[.agg #[.int .i64 x.id,.int .i64 x.kind,.int .i64 x.addr,.int .i64 x.many,.bool x.wrap,v0,v1]] w fun e w'=>e = .returned (.bool (writesB x))∧Below w.heap.size w w':=by
 have HB:=Lib.hid (below_alloc w (.cells #[.int .i64 x.id,.int .i64 x.kind,.int .i64 x.addr,.int .i64 x.many,.bool x.wrap,v0,v1] 26));have HW:Hid (writesB x=(x.kind == 2 || x.kind == 4)):=Lib.hid rfl;cases q2:x.kind == 2
 all_goals cases q4:x.kind == 4
 all_goals
  have Q2:=Lib.hid q2;have Q4:=Lib.hid q4;go_enter Try.func103,Try.ntmps103
  go_wp2;go_ret;exact ⟨ret_bool (by rw [HW.out,Q2.out,Q4.out];rfl),HB.out⟩
theorem reqOk_of {x:Req} {n0 n1:Nat} {m:Int} (h0:x.data.length=n0) (h1:x.lanes.length=n1) (hm:manyOf x=m) :
 reqOk x=(inB x.id 0 1 && (inB x.kind 1 4 && (adrOk x.addr x.many x.wrap && (((n0:Int) == m) && (((n1:Int) == m) && (allIn x.data 0 65535 && (allIn x.lanes 0 3 && (x.kind == 1 || x.kind == 2 || x.many == 1)))))))):=by
 subst h0 h1 hm;rfl
set_option maxRecDepth 100000 in
set_option maxHeartbeats 6400000 in
theorem iReqOk_any (x:Req) (v0 v1:Value) (fp0 fp1:List Nat) (w:World) (g0:SlR 1 intR w x.data v0 fp0) (g1:SlR 1 intR w x.lanes v1 fp1) :
 Calls Try.prog 46 #[.agg #[.int .i64 x.id,.int .i64 x.kind,.int .i64 x.addr,.int .i64 x.many,.bool x.wrap,v0,v1]] w fun e w'=>e = .returned (.bool (reqOk x))∧Below w.heap.size w w':=by
 obtain ⟨id,kind,addr,many,wrap,data,lanes⟩:=x;have hb:=below_alloc w (.cells #[.int .i64 id,.int .i64 kind,.int .i64 addr,.int .i64 many,.bool wrap,v0,v1] 26);have G0:=Lib.hid (SlR.below intR_fits g0 hb);have G1:=Lib.hid (SlR.below intR_fits g1 hb);have B:=Lib.hid hb;obtain ⟨a0,n0,c0,rfl,hn0,_,_,_,_⟩:=g0.opened;obtain ⟨a1,n1,c1,rfl,hn1,_,_,_,_⟩:=g1.opened;have HO:=Lib.hid (fun m=>reqOk_of (x:=⟨id,kind,addr,many,wrap,data,lanes⟩) (m:=m) hn0.out hn1.out);dsimp only at G0 G1;clear hb g0 g1 hn0 hn1;have HBox:Hid (∀ j v,(#[.int .i64 id,.int .i64 kind,.int .i64 addr,.int .i64 many,.bool wrap,.slice a0 n0 c0,.slice a1 n1 c1]:Array Value)[j]?=some v->(w.alloc (.cells #[.int .i64 id,.int .i64 kind,.int .i64 addr,.int .i64 many,.bool wrap,.slice a0 n0 c0,.slice a1 n1 c1] 26)).cell? ⟨w.heap.size,j,none⟩=some v):=Lib.hid (fun j v h=>alloc1_new w _ _ j h);cases qw:writesB ⟨id,kind,addr,many,wrap,data,lanes⟩
 all_goals
  have HM:Hid (∃ m:Int,manyOf ⟨id,kind,addr,many,wrap,data,lanes⟩=m∧m=if writesB ⟨id,kind,addr,many,wrap,data,lanes⟩ then many else 0):=Lib.hid ⟨_,rfl,rfl⟩;obtain ⟨m,hm,hm'⟩:=HM.out;rw [qw] at hm';simp only [if_true,Bool.false_eq_true,if_false] at hm';have QW:=Lib.hid qw;have HO2:=Lib.hid (HO.out m hm);clear hm qw HM HO
 case' false =>
  subst hm';by_cases e0:n0=0
  case' neg=>have q0:((n0:Int) == 0)=false:=by simpa using e0
  case' pos =>
   obtain rfl:=e0;by_cases e1:n1=0
   case' neg=>have q1:((n1:Int) == 0)=false:=by simpa using e1
   case' pos=>obtain rfl:=e1
 case' true =>
  obtain rfl:many=m:=hm'.symm;by_cases e0:many=n0
  case' neg=>have q0:((n0:Int) == many)=false:=by simpa using fun h=>e0 h.symm
  case' pos =>
   obtain rfl:=e0;by_cases e1:n1=n0
   case' neg=>have q1:((n1:Int) == (n0:Int))=false:=by rw [beq_eq_false_iff_ne];omega
   case' pos=>obtain rfl:=e1
 all_goals (try have E0:=Lib.hid e0;clear e0)
 all_goals (try have E1:=Lib.hid e1;clear e1)
 all_goals
  go_enter Try.func46,Try.ntmps46
  go_wp2_with fail
  refine (writes_any ⟨id,kind,addr,_,wrap,data,lanes⟩ _ _ _).mono ?_;rw [QW.out];rintro e w1 ⟨rfl,b⟩;replace G0:=Lib.hid (SlR.below intR_fits G0.out b);replace G1:=Lib.hid (SlR.below intR_fits G1.out b);have X0:=keep_cell b (HBox.out 0 _ rfl);have X1:=keep_cell b (HBox.out 1 _ rfl);have X2:=keep_cell b (HBox.out 2 _ rfl);have X3:=keep_cell b (HBox.out 3 _ rfl);have X4:=keep_cell b (HBox.out 4 _ rfl);have X5:=keep_cell b (HBox.out 5 _ rfl);have X6:=keep_cell b (HBox.out 6 _ rfl);replace B:=Lib.hid (B.out.trans (b.mono B.out.size));clear b HBox;go_wp2_with (first
   | (go_at_call 52;refine (in_any _ _ _ _).mono ?_;rintro e w' ⟨rfl,rfl⟩)
   | (go_at_call 56;refine (iAdrOk_any _ _ _ _).mono ?_;rintro e w' ⟨rfl,rfl⟩)
   | (go_at_call 99;refine (areWords_any _ data fp0 _ G0.out).mono ?_;rintro e w2 ⟨rfl,b⟩;rw [wordsB_eq];replace G1:=Lib.hid (SlR.below intR_fits G1.out b);replace X1:=keep_cell b X1;replace X3:=keep_cell b X3;replace X6:=keep_cell b X6;replace B:=Lib.hid (B.out.trans (b.mono B.out.size));clear b)
   | (go_at_call 58;refine (containsLane _ lanes fp1 _ G1.out).mono ?_;rintro e w2 ⟨rfl,b⟩;rw [lanes_eq];replace X1:=keep_cell b X1;replace X3:=keep_cell b X3;replace B:=Lib.hid (B.out.trans (b.mono B.out.size));clear b))
  all_goals go_ret
  all_goals refine ⟨ret_bool ?_,B.out⟩
  all_goals rw [HO2.out]
  all_goals first|(simp [*];done)|(simp [*] at *;omega)|trace_state
theorem reqOk_spec {x:Req} {n0 n1:Nat} (h0:x.data.length=n0) (h1:x.lanes.length=n1) :
 reqOk x=(inB x.id 0 1 && (inB x.kind 1 4 && (adrOk x.addr x.many x.wrap && (!(decide (3<=x.kind) && (x.many != 1)) &&
  (if writesB x then ((n0:Int) == x.many) && (((n1:Int) == x.many) && (allIn x.data 0 65535 && allIn x.lanes 0 3)) else ((n0:Int) == 0) && ((n1:Int) == 0)))))):=by
 rw [reqOk_of h0 h1 rfl];obtain ⟨id,kind,addr,many,wrap,data,lanes⟩:=x;unfold manyOf writesB;dsimp only;cases inB id 0 1
 ·simp
 cases hk:inB kind 1 4
 ·simp
 have hk':=inB_true.1 hk;cases adrOk addr many wrap
 ·simp
 simp only [Bool.true_and];have hkind:kind=1∨kind=2∨kind=3∨kind=4:=by omega
 have hd0:n0=0->allIn data 0 65535=true:=fun h=>by
  have:data=[]:=List.eq_nil_of_length_eq_zero (by simpa [h] using h0);subst this;rfl
 have hl0:n1=0->allIn lanes 0 3=true:=fun h=>by
  have:lanes=[]:=List.eq_nil_of_length_eq_zero (by simpa [h] using h1);subst this;rfl
 rcases hkind with rfl|rfl|rfl|rfl
 all_goals cases hM:(many == 1)
 all_goals cases hA:((n0:Int) == 0)
 all_goals cases hB:((n1:Int) == 0)
 all_goals (try have hd1:=hd0 (by have:=eq_of_beq hA;omega))
 all_goals (try have hl1:=hl0 (by have:=eq_of_beq hB;omega))
 all_goals (simp only [bne,hM];simp [*];done)
set_option maxRecDepth 100000 in
set_option maxHeartbeats 6400000 in
theorem sReqOk_any (x:Req) (v0 v1:Value) (fp0 fp1:List Nat) (w:World) (g0:SlR 1 intR w x.data v0 fp0) (g1:SlR 1 intR w x.lanes v1 fp1) :
 Calls Try.prog 49 #[.agg #[.int .i64 x.id,.int .i64 x.kind,.int .i64 x.addr,.int .i64 x.many,.bool x.wrap,v0,v1]] w fun e w'=>e = .returned (.bool (reqOk x))∧Below w.heap.size w w':=by
 obtain ⟨id,kind,addr,many,wrap,data,lanes⟩:=x;have hb:=below_alloc w (.cells #[.int .i64 id,.int .i64 kind,.int .i64 addr,.int .i64 many,.bool wrap,v0,v1] 26);have G0:=Lib.hid (SlR.below intR_fits g0 hb);have G1:=Lib.hid (SlR.below intR_fits g1 hb);have B:=Lib.hid hb;obtain ⟨a0,n0,c0,rfl,hn0,_,_,_,_⟩:=g0.opened;obtain ⟨a1,n1,c1,rfl,hn1,_,_,_,_⟩:=g1.opened;have HO:=Lib.hid (reqOk_spec (x:=⟨id,kind,addr,many,wrap,data,lanes⟩) hn0.out hn1.out);dsimp only at G0 G1;clear hb g0 g1 hn0 hn1;have HBox:Hid (∀ j v,(#[.int .i64 id,.int .i64 kind,.int .i64 addr,.int .i64 many,.bool wrap,.slice a0 n0 c0,.slice a1 n1 c1]:Array Value)[j]?=some v->(w.alloc (.cells #[.int .i64 id,.int .i64 kind,.int .i64 addr,.int .i64 many,.bool wrap,.slice a0 n0 c0,.slice a1 n1 c1] 26)).cell? ⟨w.heap.size,j,none⟩=some v):=Lib.hid (fun j v h=>alloc1_new w _ _ j h);cases qw:writesB ⟨id,kind,addr,many,wrap,data,lanes⟩
 case' false =>
  have QW:=Lib.hid qw;clear qw;by_cases e0:n0=0
  case' neg=>have q0:((n0:Int) == 0)=false:=by simpa using e0
  case' pos =>
   obtain rfl:=e0;by_cases e1:n1=0
   case' neg=>have q1:((n1:Int) == 0)=false:=by simpa using e1
   case' pos=>obtain rfl:=e1
 case' true =>
  have QW:=Lib.hid qw;clear qw;by_cases e0:many=n0
  case' neg=>have q0:((n0:Int) == many)=false:=by simpa using fun h=>e0 h.symm
  case' pos =>
   obtain rfl:=e0;by_cases e1:n1=n0
   case' neg=>have q1:((n1:Int) == (n0:Int))=false:=by rw [beq_eq_false_iff_ne];omega
   case' pos=>obtain rfl:=e1
 all_goals (try have E0:=Lib.hid e0;clear e0)
 all_goals (try have E1:=Lib.hid e1;clear e1)
 all_goals
  go_enter Try.func49,Try.ntmps49
  go_wp2_with (first
   | (go_at_call 70;refine (l1In_any _ _ _ _).mono ?_;rintro e w' ⟨rfl,rfl⟩)
   | (go_at_call 102;refine (sAdrOk_any _ _ _ _).mono ?_;rintro e w' ⟨rfl,rfl⟩)
   | (go_at_call 103;refine (l3Writes_any ⟨id,kind,addr,_,wrap,data,lanes⟩ _ _ _).mono ?_;rw [QW.out];rintro e w1 ⟨rfl,b⟩;replace G0:=Lib.hid (SlR.below intR_fits G0.out b);replace G1:=Lib.hid (SlR.below intR_fits G1.out b);have X3:=keep_cell b (HBox.out 3 _ rfl);have X5:=keep_cell b (HBox.out 5 _ rfl);have X6:=keep_cell b (HBox.out 6 _ rfl);replace B:=Lib.hid (B.out.trans (b.mono B.out.size));clear b)
   | (go_at_call 64; first
       | ((with_reducible refine (l3All_any _ data fp0 0 65535 _ G0.out).mono ?_); rintro e w2 ⟨rfl, rfl⟩)
       | ((with_reducible refine (l3All_any _ lanes fp1 0 3 _ G1.out).mono ?_);rintro e w2 ⟨rfl,rfl⟩)))
  all_goals go_ret
  all_goals refine ⟨ret_bool ?_,B.out⟩
  all_goals rw [HO.out,QW.out]
  all_goals clear HBox G0 G1 B
  all_goals (try simp only [Bool.not_eq_true',Bool.not_eq_false'] at *)
  all_goals (try have hk':=decide_eq_false (show ¬ 3<=kind by omega))
  all_goals first|(simp [*];done)|trace_state
end Go.Proofs.Ytmcjklicepaiaaa
