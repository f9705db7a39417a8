/-
 Texts of this claim laid together: Bits Wrd Idx Ok Rsp UniRsp Job Map MapTo MapEq UniMap.
-/
import Derived.WalkKit
import Derived.Test.YtmcjklicepaiaaaPk06
import Derived.WalkSmall
import Derived.KernelRfl
import Derived.OwnWalk
import Derived.Deep.QuietTactic
import Derived.BigQuiet
import Derived.StillTailTactics
set_option linter.unusedVariables false
set_option linter.unusedSimpArgs false
namespace Go.Proofs.Ytmcjklicepaiaaa
section
variable (a:Nat) (h:a<65536)
include h
end
def putW (a b n:Int):Int:=(if n=2∨n=3 then b / 256 else a / 256)*256+(if n=1∨n=3 then b % 256 else a % 256)
section
variable (a b:Int) (a0:0<=a) (a1:a<=65535) (b0:0<=b) (b1:b<=65535)
include a0 a1
end
end Go.Proofs.Ytmcjklicepaiaaa
namespace Go.Proofs.Ytmcjklicepaiaaa
open Go.RowKit
theorem isWord_any (a:Int) (w:World) :
 Calls Try.prog 136 #[.int .i64 a] w fun e w'=>e = .returned (.bool (inB a 0 65535))∧w=w':=by
 go_enter Try.func136,Try.ntmps136
 go_wp2_with (go_at_call 52;refine (in_any _ _ _ _).mono ?_;rintro e w' ⟨rfl,rfl⟩)
 go_ret;exact ⟨rfl,rfl⟩
def wrdPut (a b n:Int):Int:=if inB a 0 65535=true∧inB b 0 65535=true∧inB n 0 3=true then putW a b n else -1
theorem sWrdPut_any (a b n:Int) (w:World) :
 Calls Try.prog 157 #[.int .i64 a,.int .i64 b,.int .i64 n] w fun e w'=>e = .returned (.int .i64 (wrdPut a b n))∧w=w':=by
 cases h1:inB a 0 65535
 case' true=>cases h2:inB b 0 65535
 case' true.true=>cases h3:inB n 0 3
 case true.true.true =>
  obtain ⟨a0,a1⟩:=inB_true.1 h1;obtain ⟨b0,b1⟩:=inB_true.1 h2;obtain ⟨n0,n1⟩:=inB_true.1 h3;have hn':n=0∨n=1∨n=2∨n=3:=by omega
  rcases hn' with rfl|rfl|rfl|rfl
  all_goals
   go_enter Try.func157,Try.ntmps157
   go_wp2_with (go_at_call 70;refine (l1In_any _ _ _ _).mono ?_;rintro e w' ⟨rfl,rfl⟩)
   go_ret;exact ⟨ret_int (by simp [wrdPut,h1,h2,h3,putW]),rfl⟩
 all_goals
  go_enter Try.func157,Try.ntmps157
  go_wp2_with (go_at_call 70;refine (l1In_any _ _ _ _).mono ?_;rintro e w' ⟨rfl,rfl⟩)
  go_ret;exact ⟨ret_int (by simp [wrdPut, *]),rfl⟩
end Go.Proofs.Ytmcjklicepaiaaa
namespace Go.Proofs.Ytmcjklicepaiaaa
open Go.RowKit
def notWord (x:Int):Bool := !inB x 0 65535
theorem areWords1_any (x:Int) (w:World) :
 Calls Try.prog 135 #[.int .i64 x] w fun e w'=>e = .returned (.bool (notWord x))∧Below w.heap.size w w':=by
 go_enter Try.func135,Try.ntmps135
 go_wp2_with (go_at_call 136;refine (isWord_any _ _).mono ?_;rintro e w' ⟨rfl,rfl⟩)
 go_ret;exact ⟨rfl,Below.refl _ _⟩
theorem indexWords  (v:Value) (l:List Int) (fp:List Nat) (w:World)  (g:SlR 1 intR w l v fp) :
 Calls Try.prog 108 #[v,.func (.func 135) #[] #[]] w fun e w'=>e = .returned (.int .i64 (idxOf notWord l))∧Below w.heap.size w w':=by
 obtain ⟨a,n,c,rfl,hn,hcap,hmax,hcm,r⟩:=g.opened;have G:=Lib.hid g;clear g;go_enter Try.func108,Try.ntmps108
 go_wp2_with fail
 go_loopw [8] (fun i wr=>∃ k:Nat,k<=n∧i = .int .i64 k∧(∀ j (h:j<l.length),j<k->notWord l[j]=false)∧Below w.heap.size w wr) (fun i _=>n - (intOf i).toNat)
 case atStart=>exact ⟨0,Nat.zero_le _,rfl,fun j _ h=>absurd h (Nat.not_lt_zero j),Below.refl _ _⟩
 case round =>
  obtain ⟨k,hk,rfl,hp,hb⟩:=hrel;have HP:=Lib.hid hp;have HB:=Lib.hid hb;clear hp;by_cases hlt:k<n
  ·obtain ⟨i1,b1,o1,f1,cs,rfl,hb1,hbf,hff,hR,e1⟩:=r k hlt;have HR:=Lib.hid hR;obtain ⟨rfl,rfl⟩:=hR;have c0:=(hb.cell (p:=⟨b1,o1+k*1+0,none⟩) hb1).trans (e1 0 (by simp));simp only [Nat.mul_one,Nat.add_zero,List.getElem_cons_zero] at c0;clear r e1 hb hbf hff;go_wp2_with fail
   refine (areWords1_any _ _).mono ?_;rintro e w2 ⟨rfl,b2⟩;have HB2:=Lib.hid (HB.out.trans (b2.mono HB.out.size));clear b2 c0;cases hq:notWord l[k]
   ·have HQ:=Lib.hid hq;clear hq;go_wp2
    go_roundw
    case rel=>exact ⟨k+1,by omega,by go_num,fun j h hj=>(by
     by_cases e:j=k
     ·subst e;exact HQ.out
     ·exact HP.out j h (by omega)),HB2.out⟩
    case measure=>simp [intOf];omega
   ·have HQ:=Lib.hid hq;clear hq;go_wp2;go_ret;exact ⟨ret_int (idxOf_hit i1 HQ.out (fun j h hj=>HP.out j h hj)).symm,HB2.out⟩
  ·clear r hb;go_wp2;go_ret;exact ⟨ret_int (idxOf_none (fun j h=>HP.out j h (by rw [hn.out] at h;omega))).symm,HB.out⟩
theorem containsWords  (v:Value) (l:List Int) (fp:List Nat) (w:World)  (g:SlR 1 intR w l v fp) :
 Calls Try.prog 58 #[v,.func (.func 135) #[] #[]] w fun e w'=>e = .returned (.bool (l.any notWord))∧Below w.heap.size w w':=by
 go_enter Try.func58,Try.ntmps58
 go_wp2_with fail
 refine (indexWords  v l fp _  g).mono ?_;rintro e w' ⟨rfl,hb⟩;have HB:=Lib.hid hb;clear hb;cases hq:decide (0<=idxOf notWord l)
 all_goals
  go_wp2;go_ret;exact ⟨ret_bool (by rw [<- idxOf_any,hq]),HB.out⟩
def wordsB (l:List Int):Bool := !l.any notWord
theorem areWords_any (v:Value) (l:List Int) (fp:List Nat) (w:World) (g:IntS w l v fp) :
 Calls Try.prog 99 #[v] w fun e w'=>e = .returned (.bool (wordsB l))∧Below w.heap.size w w':=by
 have G:=Lib.hid g;clear g;go_enter Try.func99,Try.ntmps99
 go_wp2_with fail
 refine (containsWords v l fp _ G.out).mono ?_;rintro e w' ⟨rfl,hb⟩;have HB:=Lib.hid hb;clear hb;cases hq:l.any notWord
 all_goals
  go_wp2;go_ret;exact ⟨ret_bool (by unfold wordsB;rw [hq];rfl),HB.out⟩
end Go.Proofs.Ytmcjklicepaiaaa
namespace Go.Proofs.Ytmcjklicepaiaaa
open Go.RowKit
theorem wordsB_eq (l:List Int):wordsB l=allIn l 0 65535:=by
 unfold wordsB allIn;rw [List.all_eq_not_any_not];rfl
theorem l3All_any (v:Value) (l:List Int) (fp:List Nat) (lo hi:Int) (w:World) (g:IntS w l v fp) :
 Calls Try.prog 64 #[v,.int .i64 lo,.int .i64 hi] w fun e w'=>e = .returned (.bool (allIn l lo hi))∧w=w':=by
 obtain ⟨a,n,c,rfl,hn,hcap,hmax,hcm,r⟩:=g.opened;clear g;go_enter Try.func64,Try.ntmps64
 go_wp2_with fail
 go_loop [7] (fun i=>∃ k:Nat,k<=n∧i = .int .i64 k∧∀ j (h:j<l.length),j<k->inB l[j] lo hi=true) (fun i=>n - (intOf i).toNat)
 case atStart=>exact ⟨0,Nat.zero_le _,rfl,fun j _ h=>absurd h (Nat.not_lt_zero j)⟩
 case round =>
  obtain ⟨k,hk,rfl,hp⟩:=hrel;have HP:=Lib.hid hp;clear hp;by_cases hlt:k<n
  ·obtain ⟨i1,b1,o1,rfl,hb1,hbm,e1⟩:=r k hlt;clear r hbm;go_wp2_with fail
   refine (l1In_any _ _ _ _).mono ?_;rintro e w2 ⟨rfl,rfl⟩;cases hq:inB l[k] lo hi
   ·have HQ:=Lib.hid hq;clear hq;go_wp2;go_ret;exact ⟨ret_bool (allIn_no i1 HQ.out).symm,rfl⟩
   ·have HQ:=Lib.hid hq;clear hq;go_wp2
    go_round
    case rel=>exact ⟨k+1,by omega,by go_num,fun j h hj=>(by
     by_cases e:j=k
     ·subst e;exact HQ.out
     ·exact HP.out j h (by omega))⟩
    case measure=>simp [intOf];omega
  ·clear r;go_wp2;go_ret;exact ⟨ret_bool (allIn_yes (fun j h=>HP.out j h (by rw [hn.out] at h;omega))).symm,rfl⟩
def memOk (l:List Int):Bool:=decide (l.length=64) && allIn l 0 65535
theorem memOk_len {l:List Int} (h:l.length≠64):memOk l=false:=by simp [memOk,h]
theorem memOk_at {l:List Int} (h:l.length=64):memOk l=allIn l 0 65535:=by simp [memOk,h]
theorem sMemOk_any (v:Value) (l:List Int) (fp:List Nat) (w:World) (g:IntS w l v fp) :
 Calls Try.prog 126 #[.agg #[v]] w fun e w'=>e = .returned (.bool (memOk l))∧Below w.heap.size w w':=by
 have hb:=below_alloc w (.cells #[v] 66);obtain ⟨a,n,c,rfl,hn,hcap,hmax,hcm,r⟩:=IntS.opened (g.below intR_fits hb);have HB:=Lib.hid hb;clear g hb;by_cases h64:n=64
 ·subst h64;go_enter Try.func126,Try.ntmps126
  go_wp2_with fail
  go_loop [3] (fun i=>∃ k:Nat,k<=64∧i = .int .i64 k∧∀ j (h:j<l.length),j<k->inB l[j] 0 65535=true) (fun i=>64 - (intOf i).toNat)
  case atStart=>exact ⟨0,Nat.zero_le _,rfl,fun j _ h=>absurd h (Nat.not_lt_zero j)⟩
  case round =>
   obtain ⟨k,hk,rfl,hp⟩:=hrel;have HP:=Lib.hid hp;clear hp;by_cases hlt:k<64
   ·obtain ⟨i1,b1,o1,rfl,hb1,hbm,e1⟩:=r k hlt;clear r hbm;go_wp2_with fail
    refine (l1In_any _ _ _ _).mono ?_;rintro e w2 ⟨rfl,rfl⟩;cases hq:inB l[k] 0 65535
    ·have HQ:=Lib.hid hq;clear hq;go_wp2;go_ret;exact ⟨ret_bool (by rw [memOk_at hn.out,allIn_no i1 HQ.out]),HB.out⟩
    ·have HQ:=Lib.hid hq;clear hq;go_wp2
     go_round
     case rel=>exact ⟨k+1,by omega,by go_num,fun j h hj=>(by
      by_cases e:j=k
      ·subst e;exact HQ.out
      ·exact HP.out j h (by omega))⟩
     case measure=>simp [intOf];omega
   ·clear r;go_wp2;go_ret;exact ⟨ret_bool (by rw [memOk_at hn.out,allIn_yes (fun j h=>HP.out j h (by rw [hn.out] at h;omega))]),HB.out⟩
 ·clear r;have hne:l.length≠64:=by rw [hn.out];exact h64
  have hq:((n:Int) != 64)=true:=by simp;omega
  go_enter Try.func126,Try.ntmps126
  go_wp2;go_ret;exact ⟨ret_bool (memOk_len hne).symm,HB.out⟩
theorem iMemOk_any (v:Value) (l:List Int) (fp:List Nat) (w:World) (g:IntS w l v fp) :
 Calls Try.prog 95 #[.agg #[v]] w fun e w'=>e = .returned (.bool (memOk l))∧Below w.heap.size w w':=by
 have hb:=below_alloc w (.cells #[v] 66);have G:=Lib.hid (g.below intR_fits hb);obtain ⟨a,n,c,rfl,hn,hcap,hmax,hcm,_⟩:=g.opened;have HB:=Lib.hid hb;clear g hb;by_cases h64:n=64
 ·subst h64;go_enter Try.func95,Try.ntmps95
  go_wp2_with fail
  refine (areWords_any _ l fp _ G.out).mono ?_;rintro e w2 ⟨rfl,b2⟩;have HB2:=Lib.hid (HB.out.trans (b2.mono HB.out.size));clear b2;cases hq:wordsB l
  all_goals
   go_wp2;go_ret;exact ⟨ret_bool (by rw [memOk_at hn.out,<- wordsB_eq,hq]),HB2.out⟩
 ·have hne:l.length≠64:=by rw [hn.out];exact h64
  have hq:((n:Int) == 64)=false:=by simp;omega
  go_enter Try.func95,Try.ntmps95
  go_wp2;go_ret;exact ⟨ret_bool (memOk_len hne).symm,HB.out⟩
end Go.Proofs.Ytmcjklicepaiaaa
namespace Go.Proofs.Ytmcjklicepaiaaa
open Go.RowKit Go.ChangeShapes
structure Rsp where
 id:Int
 code:Int
 data:List Int
 deriving DecidableEq
def rspOk (x:Rsp):Bool:=inB x.id 0 1 && (inB x.code 1 4 && (decide (x.data.length<=4) && allIn x.data 0 65535))
theorem iRspOk_any (x:Rsp) (v:Value) (fp:List Nat) (w:World) (g:IntS w x.data v fp) :
 Calls Try.prog 124 #[.agg #[.int .i64 x.id,.int .i64 x.code,v]] w fun e w'=>e = .returned (.bool (rspOk x))∧Below w.heap.size w w':=by
 have hb:=below_alloc w (.cells #[.int .i64 x.id,.int .i64 x.code,v] 62);have G:=Lib.hid (g.below intR_fits hb);obtain ⟨a,n,c,rfl,hn,hcap,hmax,hcm,_⟩:=g.opened;have HB:=Lib.hid hb;have HN:=Lib.hid (show decide (x.data.length<=4)=decide ((n:Int)<=4) by rw [hn.out];exact decide_eq_decide.2 (by omega));clear g hb;go_enter Try.func124,Try.ntmps124
 go_wp2_with (first
  | (go_at_call 52;refine (in_any _ _ _ _).mono ?_;rintro e w' ⟨rfl,rfl⟩)
  | (go_at_call 99;refine (areWords_any _ x.data fp _ G.out).mono ?_;rintro e w2 ⟨rfl,b2⟩;have HB2:=Lib.hid (HB.out.trans (b2.mono HB.out.size));clear b2))
 all_goals go_ret
 all_goals refine ⟨ret_bool ?_,by first|exact HB2.out|exact HB.out⟩
 all_goals unfold rspOk
 all_goals rw [HN.out]
 all_goals (first|(simp [*,wordsB_eq];done)|(simp [*];omega))
theorem sRspOk_any (x:Rsp) (v:Value) (fp:List Nat) (w:World) (g:IntS w x.data v fp) :
 Calls Try.prog 128 #[.agg #[.int .i64 x.id,.int .i64 x.code,v]] w fun e w'=>e = .returned (.bool (rspOk x))∧Below w.heap.size w w':=by
 have hb:=below_alloc w (.cells #[.int .i64 x.id,.int .i64 x.code,v] 62);have G:=Lib.hid (g.below intR_fits hb);obtain ⟨a,n,c,rfl,hn,hcap,hmax,hcm,_⟩:=g.opened;have HB:=Lib.hid hb;have HN:=Lib.hid (show decide (x.data.length<=4)=decide ((n:Int)<=4) by rw [hn.out];exact decide_eq_decide.2 (by omega));clear g hb;go_enter Try.func128,Try.ntmps128
 go_wp2_with (first
  | (go_at_call 70;refine (l1In_any _ _ _ _).mono ?_;rintro e w' ⟨rfl,rfl⟩)
  | (go_at_call 64;refine (l3All_any _ x.data fp _ _ _ G.out).mono ?_;rintro e w2 ⟨rfl,rfl⟩))
 all_goals go_ret
 all_goals refine ⟨ret_bool ?_,HB.out⟩
 all_goals unfold rspOk
 all_goals rw [HN.out]
 all_goals (first|(simp [*];done)|(simp [*];omega))
end Go.Proofs.Ytmcjklicepaiaaa
namespace Go.Proofs.Ytmcjklicepaiaaa
open Go.RowKit
end Go.Proofs.Ytmcjklicepaiaaa
namespace Go.Proofs.Ytmcjklicepaiaaa
open Go.RowKit Go.ChangeShapes
structure Job where
 who:Int
 n:Int
 rsp:Rsp
 deriving DecidableEq
def jobR:Pr Job:=fun w x cs fp=>∃ (v0:Value) (fp0:List Nat),cs=[.int .i64 x.who,.int .i64 x.n,.int .i64 x.rsp.id,.int .i64 x.rsp.code,v0]∧fp=fp0∧SlR 1 intR w x.rsp.data v0 fp0
theorem jobR_fits:Fits 5 jobR:=by
 refine ⟨fun ⟨v0,fp0,e,e2,g0⟩=>by rw [e];rfl,fun ⟨v0,fp0,e,e2,g0⟩ b hb=>?_,fun ⟨v0,fp0,e,e2,g0⟩ hs hz=>⟨v0,fp0,e,e2,g0.same intR_fits (hs.mono (fun b hb=>by rw [e2];simp [hb])) hz⟩⟩;rw [e2] at hb
 ·exact g0.lt intR_fits b hb
end Go.Proofs.Ytmcjklicepaiaaa
namespace Go.Proofs.Ytmcjklicepaiaaa
open Go.RowKit
structure MR where
 fr:Int
 to:Int
 sl:Int
 only:Bool
 deriving DecidableEq
def mrR:Pr MR:=fun _ x cs fp=>cs=[.int .i64 x.fr,.int .i64 x.to,.int .i64 x.sl,.bool x.only]∧fp=[]
theorem mrR_fits:Fits 4 mrR:=⟨fun h=>by rw [h.1];rfl,fun h b hb=>by rw [h.2] at hb;simp at hb,fun h _ _=>h⟩
def isIn (addr:Int) (r:MR):Bool:=inB addr r.fr r.to
theorem l1In_q (a b c:Int) (w:World) :
 Calls Try.prog 70 #[.int .i64 a,.int .i64 b,.int .i64 c] w fun e w'=>e = .returned (.bool (inB a b c))∧w'=w :=
 (l1In_any a b c w).mono fun _ _ h=>⟨h.1,h.2.symm⟩
theorem l1Find_any (v:Value) (l:List MR) (fp:List Nat) (addr:Int) (w:World) (g:SlR 4 mrR w l v fp) :
 Calls Try.prog 104 #[v,.int .i64 addr] w fun e w'=>e = .returned (.int .i64 (idxOf (isIn addr) l))∧∃ m,w'=w.drewN m:=by
 obtain ⟨a,n,c,rfl,hn,hcap,hmax,hcm,r⟩:=g.opened;clear g;go_enter Try.func104,Try.ntmps104
 go_wp2_with fail
 go_loopw [5] (fun i wr=>∃ k:Nat,k<=n∧i = .int .i64 k∧(∀ j (h:j<l.length),j<k->isIn addr l[j]=false)∧∃ m,wr=w.drewN m) (fun i _=>n - (intOf i).toNat)
 case atStart=>exact ⟨0,Nat.zero_le _,rfl,fun j _ h=>absurd h (Nat.not_lt_zero j),0,rfl⟩
 case round =>
  obtain ⟨k,hk,rfl,hp,m,hm⟩:=hrel;have HP:=Lib.hid hp;have HM:=Lib.hid hm;clear hp hm;by_cases hlt:k<n
  ·obtain ⟨i1,b1,o1,f1,cs,rfl,hb1,hbf,hff,⟨rfl,rfl⟩,e1⟩:=r k hlt;have c0:wr.cell? _=_:=(congrArg (fun z=>World.cell? z _) HM.out).trans (e1 0 (by simp));have c1:wr.cell? _=_:=(congrArg (fun z=>World.cell? z _) HM.out).trans (e1 1 (by simp));simp only [Nat.add_zero,List.getElem_cons_zero,List.getElem_cons_succ] at c0 c1;clear r e1 hbf hff;go_wp2_with fail
   go_quiet ((go_at_call 70;exact Calls.quiet_of_same (l1In_q _ _ _ _)))
   cases hq:inB addr l[k].fr l[k].to
   ·have HQ:=Lib.hid (show isIn addr l[k]=false from hq);clear hq;go_wp2
    go_roundw
    case rel=>exact ⟨k+1,by omega,by go_num,fun j h hj=>(by
     by_cases e:j=k
     ·subst e;exact HQ.out
     ·exact HP.out j h (by omega)),⟨_,by rw [HM.out,World.drewN_drewN]⟩⟩
    case measure=>simp [intOf];omega
   ·have HQ:=Lib.hid (show isIn addr l[k]=true from hq);clear hq;go_wp2;go_ret;exact ⟨ret_int (idxOf_hit i1 HQ.out (fun j h hj=>HP.out j h hj)).symm,⟨_,by rw [HM.out,World.drewN_drewN]⟩⟩
  ·clear r;go_wp2;go_ret;exact ⟨ret_int (idxOf_none (fun j h=>HP.out j h (by rw [hn.out] at h;omega))).symm,m,HM.out⟩
theorem idxOf_at {α:Type} {p:α->Bool} {l:List α} {k:Nat} (h:idxOf p l=k):∃ hk:k<l.length,p l[k]=true∧∀ j (hj:j<l.length),j<k->p l[j]=false:=by
 unfold idxOf at h;cases e:l.findIdx? p with
 | none=>rw [e] at h;simp at h
 | some i =>
  rw [e] at h;simp only at h;have hik:i=k:=by omega
  subst hik;rw [List.findIdx?_eq_some_iff_getElem] at e;obtain ⟨h1,h2,h3⟩:=e;exact ⟨h1,h2,fun j hj hjk=>by have:=h3 j hjk;simpa using this⟩
end Go.Proofs.Ytmcjklicepaiaaa
namespace Go.Proofs.Ytmcjklicepaiaaa
open Go.RowKit Go.ChangeShapes
def MrC (x:MR):List Value:=[.int .i64 x.fr,.int .i64 x.to,.int .i64 x.sl,.bool x.only]
theorem MrC_len (x:MR):(MrC x).length=4:=rfl
theorem infoMr:(Try.prog.info? 31).map (fun i=>(i.zero,i.size,i.bytes))=some (some (.agg #[.int .i64 0,.int .i64 0,.int .i64 0,.bool false]),4,32):=by kernel_rfl
end Go.Proofs.Ytmcjklicepaiaaa
namespace Go.Proofs.Ytmcjklicepaiaaa
open Go.RowKit
end Go.Proofs.Ytmcjklicepaiaaa
namespace Go.Proofs.Ytmcjklicepaiaaa
open Go.RowKit
end Go.Proofs.Ytmcjklicepaiaaa
