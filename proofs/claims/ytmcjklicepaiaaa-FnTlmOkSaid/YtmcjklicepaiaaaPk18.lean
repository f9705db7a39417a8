/-
 Texts of this claim laid together: Bools Mem MemIn UniMem Atm Tlm AtmOk TOk5.
-/
import Derived.Deep.QuietTactic
import Derived.BigQuiet
import Derived.OwnWalk
import Derived.WalkSmall
import Derived.KernelRfl
import Derived.Test.YtmcjklicepaiaaaPk17
set_option linter.unusedVariables false
set_option linter.unusedSimpArgs false
namespace Go.Proofs.Ytmcjklicepaiaaa
open Go.RowKit
end Go.Proofs.Ytmcjklicepaiaaa
namespace Go.Proofs.Ytmcjklicepaiaaa
open Go.RowKit
theorem sMemNew_any (w:World) :
 Calls Try.prog 132 #[] w fun e w'=>∃ v fp,e = .returned (.agg #[v])∧IntS w' (List.replicate 64 0) v fp∧New fp w w'∧Below w.heap.size w w':=by
 obtain ⟨i0,hi,hz0,hz1,hz2⟩:=info_parts infoInt;go_enter Try.func132,Try.ntmps132
 go_wp2_with (at_make;refine wpList_make_full _ rfl _ _ 24 rfl (w.heap.size+1) 3 i0 (.int .i64 0) 1 Try.underlying24 hi hz0 hz1 _ _ _ _ 64 rfl rfl rfl rfl (by rw [hz2];omega) (by unfold maxLen;omega) (by simp) ?_;intro w1 hown hgr;have hb:=below_of_grown hgr;obtain ⟨ru1,ru2⟩:=rules_below hb;have HO:=Lib.hid hown;have HB:=Lib.hid hb;clear hown hgr hb)
 have hb:=HB.out;have ho:w1.ownsRow (w.heap.size+1) 3 1 (.slice (some ⟨w.heap.size+1,0,none⟩) 64 64) 64 ((List.replicate 64 (0:Int)).map (Value.int .i64)):=by
  have h:=HO.out;rw [show (madeCells (Value.int .i64 0).cells (64*1)).toList=(List.replicate 64 (0:Int)).map (Value.int .i64) from by simp [Value.cells,toList_madeCells_one]] at h;simpa using h
 obtain ⟨fp,g1,g2,g3,g4⟩:=IntS.of_owns ho;have hc:w1.cell? ⟨w.heap.size,0,none⟩=some (.slice none 0 0):=by rw [ru1 _ _ (by simp),World.cell?_alloc_at _ _ _ _ rfl];rfl
 have hB:Below w.heap.size w (w1.setCell ⟨w.heap.size,0,none⟩ (.slice (some ⟨w.heap.size+1,0,none⟩) 64 64)):=(((Below.refl _ _).alloc (Nat.le_refl _) _).trans (hb.mono (by simp))).setCell (Nat.le_refl _) _;have hs:Same fp w1 (w1.setCell ⟨w.heap.size,0,none⟩ (.slice (some ⟨w.heap.size+1,0,none⟩) 64 64)):=fun b hb'=>Below.heap_setCell _ _ _ _ (by have:=g2 b hb';simp;omega);exact bodyPost_ret (v:=.agg #[.slice (some ⟨w.heap.size+1,0,none⟩) 64 64]) (by simp [results,Try.results132,go_sem,World.cell?_setCell_same _ _ _ hc]) rfl
  ⟨_,fp,rfl,g1.same intR_fits hs (by simp),⟨fun b hb'=>by have:=g2 b hb';omega,g3,g4.same hs⟩,hB⟩
end Go.Proofs.Ytmcjklicepaiaaa
namespace Go.Proofs.Ytmcjklicepaiaaa
open Go.RowKit Go.ChangeShapes
end Go.Proofs.Ytmcjklicepaiaaa
namespace Go.Proofs.Ytmcjklicepaiaaa
open Go.RowKit
end Go.Proofs.Ytmcjklicepaiaaa
namespace Go.Proofs.Ytmcjklicepaiaaa
open Go.RowKit Go.ChangeShapes
structure Atm where
 mem:(List Int)
 holds:List Int
 deriving DecidableEq
end Go.Proofs.Ytmcjklicepaiaaa
namespace Go.Proofs.Ytmcjklicepaiaaa
open Go.RowKit Go.ChangeShapes
structure Tlm where
 atm:Atm
 asked:List Int
 wait:List Job
 done:List Job
 told:List Job
 deriving DecidableEq
end Go.Proofs.Ytmcjklicepaiaaa
namespace Go.Proofs.Ytmcjklicepaiaaa
open Go.RowKit
def atmOk (x:Atm):Bool:=memOk x.mem && (decide (x.holds.length=6) && allIn x.holds (-1) 63)
def noHold (n:Int):Bool := !inB n (-1) 63
theorem noHold_any (n:Int) (w:World):Calls Try.prog 96 #[.int .i64 n] w fun e w'=>e = .returned (.bool (noHold n))∧Below w.heap.size w w':=by
 go_enter Try.func96,Try.ntmps96
 go_wp2_with fail
 refine (in_any _ _ _ _).mono ?_;rintro e w' ⟨rfl,rfl⟩;go_wp2;go_ret;exact ⟨rfl,Below.refl _ _⟩
theorem indexHold  (v:Value) (l:List Int) (fp:List Nat) (w:World)  (g:SlR 1 intR w l v fp) :
 Calls Try.prog 108 #[v,.func (.func 96) #[] #[]] w fun e w'=>e = .returned (.int .i64 (idxOf noHold l))∧Below w.heap.size w w':=by
 obtain ⟨a,n,c,rfl,hn,hcap,hmax,hcm,r⟩:=g.opened;have G:=Lib.hid g;clear g;go_enter Try.func108,Try.ntmps108
 go_wp2_with fail
 go_loopw [8] (fun i wr=>∃ k:Nat,k<=n∧i = .int .i64 k∧(∀ j (h:j<l.length),j<k->noHold l[j]=false)∧Below w.heap.size w wr) (fun i _=>n - (intOf i).toNat)
 case atStart=>exact ⟨0,Nat.zero_le _,rfl,fun j _ h=>absurd h (Nat.not_lt_zero j),Below.refl _ _⟩
 case round =>
  obtain ⟨k,hk,rfl,hp,hb⟩:=hrel;have HP:=Lib.hid hp;have HB:=Lib.hid hb;clear hp;by_cases hlt:k<n
  ·obtain ⟨i1,b1,o1,f1,cs,rfl,hb1,hbf,hff,hR,e1⟩:=r k hlt;have HR:=Lib.hid hR;obtain ⟨rfl,rfl⟩:=hR;have c0:=(hb.cell (p:=⟨b1,o1+k*1+0,none⟩) hb1).trans (e1 0 (by simp));simp only [Nat.mul_one,Nat.add_zero,List.getElem_cons_zero] at c0;clear r e1 hb hbf hff;go_wp2_with fail
   refine (noHold_any l[k] _).mono ?_;rintro e w2 ⟨rfl,b2⟩;have HB2:=Lib.hid (HB.out.trans (b2.mono HB.out.size));clear b2 c0;cases hq:noHold l[k]
   ·have HQ:=Lib.hid hq;clear hq;go_wp2
    go_roundw
    case rel=>exact ⟨k+1,by omega,by go_num,fun j h hj=>(by
     by_cases e:j=k
     ·subst e;exact HQ.out
     ·exact HP.out j h (by omega)),HB2.out⟩
    case measure=>simp [intOf];omega
   ·have HQ:=Lib.hid hq;clear hq;go_wp2;go_ret;exact ⟨ret_int (idxOf_hit i1 HQ.out (fun j h hj=>HP.out j h hj)).symm,HB2.out⟩
  ·clear r hb;go_wp2;go_ret;exact ⟨ret_int (idxOf_none (fun j h=>HP.out j h (by rw [hn.out] at h;omega))).symm,HB.out⟩
theorem containsHold  (v:Value) (l:List Int) (fp:List Nat) (w:World)  (g:SlR 1 intR w l v fp) :
 Calls Try.prog 58 #[v,.func (.func 96) #[] #[]] w fun e w'=>e = .returned (.bool (l.any noHold))∧Below w.heap.size w w':=by
 go_enter Try.func58,Try.ntmps58
 go_wp2_with fail
 refine (indexHold  v l fp _  g).mono ?_;rintro e w' ⟨rfl,hb⟩;have HB:=Lib.hid hb;clear hb;cases hq:decide (0<=idxOf noHold l)
 all_goals
  go_wp2;go_ret;exact ⟨ret_bool (by rw [<- idxOf_any,hq]),HB.out⟩
theorem holds_eq (l:List Int):l.any noHold = !allIn l (-1) 63:=by
 unfold allIn;rw [List.all_eq_not_any_not];simp only [Bool.not_not];rfl
theorem sAtmOk_any (x:Atm) (v0 v1:Value) (fp0 fp1:List Nat) (w:World) (g0:SlR 1 intR w x.mem v0 fp0) (g1:SlR 1 intR w x.holds v1 fp1) :
 Calls Try.prog 84 #[.agg #[v0,v1]] w fun e w'=>e = .returned (.bool (atmOk x))∧Below w.heap.size w w':=by
 have hb:=below_alloc w (.cells #[v0,v1] 68);have G0:=Lib.hid (SlR.below intR_fits g0 hb);have G1:=Lib.hid (SlR.below intR_fits g1 hb);have B:=Lib.hid hb;obtain ⟨a1,n1,c1,rfl,hn1,_,_,_,_⟩:=g1.opened;have HN:=Lib.hid (show decide (x.holds.length=6)=((n1:Int) == 6) by rw [hn1.out,Bool.eq_iff_iff];simp;omega);clear hb g0 g1 hn1;cases q0:memOk x.mem
 all_goals cases q1:((n1:Int) == 6)
 all_goals
  have Q0:=Lib.hid q0;have Q1:=Lib.hid q1;clear q0;go_enter Try.func84,Try.ntmps84
  go_wp2_with (first
   | (go_at_call 126;refine (sMemOk_any _ x.mem fp0 _ G0.out).mono ?_;rw [Q0.out];rintro e w2 ⟨rfl,b⟩;replace G1:=Lib.hid (SlR.below intR_fits G1.out b);have X1:=keep_cell b (alloc1_new w _ _ 1 rfl);replace B:=Lib.hid (B.out.trans (b.mono B.out.size));clear b)
   | (go_at_call 64;refine (l3All_any _ x.holds fp1 _ _ _ G1.out).mono ?_;rintro e w2 ⟨rfl,rfl⟩))
  all_goals go_ret
  all_goals refine ⟨ret_bool ?_,B.out⟩
  all_goals unfold atmOk
  all_goals rw [HN.out,Q0.out,Q1.out]
  all_goals (simp;done)
theorem iAtmOk_any (x:Atm) (v0 v1:Value) (fp0 fp1:List Nat) (w:World) (g0:SlR 1 intR w x.mem v0 fp0) (g1:SlR 1 intR w x.holds v1 fp1) :
 Calls Try.prog 42 #[.agg #[v0,v1]] w fun e w'=>e = .returned (.bool (atmOk x))∧Below w.heap.size w w':=by
 have hb:=below_alloc w (.cells #[v0,v1] 68);have G0:=Lib.hid (SlR.below intR_fits g0 hb);have G1:=Lib.hid (SlR.below intR_fits g1 hb);have B:=Lib.hid hb;obtain ⟨a1,n1,c1,rfl,hn1,_,_,_,_⟩:=g1.opened;have HN:=Lib.hid (show decide (x.holds.length=6)=((n1:Int) == 6) by rw [hn1.out,Bool.eq_iff_iff];simp;omega);clear hb g0 g1 hn1;cases q0:memOk x.mem
 all_goals cases q1:((n1:Int) == 6)
 all_goals cases q2:allIn x.holds (-1) 63
 all_goals
  have Q0:=Lib.hid q0;have Q1:=Lib.hid q1;have Q2:=Lib.hid q2;clear q0 q2;go_enter Try.func42,Try.ntmps42
  go_wp2_with (first
   | (go_at_call 95;refine (iMemOk_any _ x.mem fp0 _ G0.out).mono ?_;rw [Q0.out];rintro e w2 ⟨rfl,b⟩;replace G1:=Lib.hid (SlR.below intR_fits G1.out b);have X1:=keep_cell b (alloc1_new w _ _ 1 rfl);replace B:=Lib.hid (B.out.trans (b.mono B.out.size));clear b)
   | (go_at_call 58;refine (containsHold _ x.holds fp1 _ G1.out).mono ?_;rw [holds_eq,Q2.out];rintro e w2 ⟨rfl,b⟩;replace B:=Lib.hid (B.out.trans (b.mono B.out.size));clear b))
  all_goals go_ret
  all_goals refine ⟨ret_bool ?_,B.out⟩
  all_goals unfold atmOk
  all_goals rw [HN.out,Q0.out,Q1.out,Q2.out]
  all_goals rfl
end Go.Proofs.Ytmcjklicepaiaaa
namespace Go.Proofs.Ytmcjklicepaiaaa
open Go.RowKit Go.ChangeShapes
theorem any_false_iff {α:Type} {p:α->Bool} {l:List α}:l.any p=false ↔ ∀ x,x∈l->p x=false:=by
 rw [List.any_eq_false];exact ⟨fun h x hx=>by simpa using h x hx,fun h x hx=>by simp [h x hx]⟩
theorem fresh_iff (l:List Job):fresh l=true ↔ l.Pairwise (fun x y=>isJob y.who y.n x=false):=by
 rw [List.pairwise_iff_getElem];constructor
 ·intro h i j hi hj hij;have:=fresh_at h j hj hj;rw [any_false_iff] at this;exact this _ (List.mem_take_iff_getElem.2 ⟨i,by omega,rfl⟩)
 ·intro h;refine fresh_yes (m:=l.length) (fun k hk _=>?_) (Nat.le_refl _);rw [any_false_iff];intro x hx;obtain ⟨i,hi,rfl⟩:=List.mem_take_iff_getElem.1 hx;exact h i k (by omega) hk (by omega)
theorem before_trans {a b c:Job} (h:jobBefore a b=true) (g:jobBefore b c=true):jobBefore a c=true:=by
 unfold jobBefore at *;simp only [Bool.or_eq_true,Bool.and_eq_true,decide_eq_true_eq,beq_iff_eq] at *;omega
theorem before_not {a b:Job} (h:jobBefore a b=true):isJob b.who b.n a=false:=by
 cases q:isJob b.who b.n a with
 | false=>rfl
 | true =>
  unfold isJob at q;unfold jobBefore at h;simp only [Bool.or_eq_true,Bool.and_eq_true,decide_eq_true_eq,beq_iff_eq] at h q;omega
theorem rise_fresh {l:List Job} (h:rise l=true):fresh l=true:=by
 rw [fresh_iff,List.pairwise_iff_getElem];have hr:=rise_at h;have key:∀ d i j (hi:i<l.length) (hj:j<l.length),j=i+d+1->jobBefore l[i] l[j]=true:=by
  intro d
  induction d with
  | zero =>
   intro i j hi hj e;have:=hr j hj (by omega) hj;have e2:l[j - 1]'(by omega)=l[i]:=by congr 1;omega
   rw [e2] at this;exact this
  | succ d ih =>
   intro i j hi hj e;have h1:=ih i (j - 1) hi (by omega) (by omega);exact before_trans h1 (hr j hj (by omega) hj)
 intro i j hi hj hij;exact before_not (key (j - i - 1) i j hi hj (by omega))
def noneIn (b a:List Job):Bool:=b.all fun j => !a.any (isJob j.who j.n)
theorem noneIn_iff (b a:List Job):noneIn b a=true ↔ ∀ x,x∈a->∀ y,y∈b->isJob y.who y.n x=false:=by
 unfold noneIn;rw [List.all_eq_true];constructor
 ·intro h x hx y hy;have:=h y hy;rw [Bool.not_eq_true',any_false_iff] at this;exact this x hx
 ·intro h y hy;rw [Bool.not_eq_true',any_false_iff];exact fun x hx=>h x hx y hy
theorem fresh_app (a b:List Job):fresh (a++b)=(fresh a && (fresh b && noneIn b a)):=by
 rw [Bool.eq_iff_iff];simp only [Bool.and_eq_true,fresh_iff,noneIn_iff,List.pairwise_append]
theorem noneIn_app (c a b:List Job):noneIn c (a++b)=(noneIn c a && noneIn c b):=by
 rw [Bool.eq_iff_iff];simp only [Bool.and_eq_true,noneIn_iff,List.mem_append];exact ⟨fun h=>⟨fun x hx=>h x (.inl hx),fun x hx=>h x (.inr hx)⟩,fun ⟨h1,h2⟩ x hx=>hx.elim (h1 x) (h2 x)⟩
def askIn (c:Bus) (asked:List Int):Bool:=(List.range 3).all fun k=>inB ((asked[k]?).getD 0) 0 (((c.progs[k]?).getD []).length)
noncomputable def tlmJobs (c:Bus) (x:Tlm):Bool :=
 jobsOk c x.asked x.wait false && (jobsOk c x.asked x.done true && (toldOk c x.asked x.told && (((x.wait.length:Int)+x.done.length+x.told.length == x.asked.sum) && ((noneIn x.told x.wait && noneIn x.told x.done) && noneIn x.done x.wait))))
noncomputable def tlmOk (c:Bus) (x:Tlm):Bool:=busOk c && (atmOk x.atm && (decide (x.asked.length=3) && (askIn c x.asked && tlmJobs c x)))
noncomputable def tlmJobsI (c:Bus) (x:Tlm):Bool :=
 x.wait.all (jobGood c x.asked false) && (x.done.all (jobGood c x.asked true) && (x.told.all (jobGood c x.asked true) && (fresh (x.wait++x.done++x.told) && ((x.wait.length:Int)+x.done.length+x.told.length == x.asked.sum))))
theorem tlmJobs_eq (c:Bus) (x:Tlm):tlmJobs c x=(rise x.wait && (rise x.done && tlmJobsI c x)):=by
 unfold tlmJobs tlmJobsI jobsOk toldOk;cases h1:rise x.wait with
 | false=>simp
 | true =>
  cases h2:rise x.done with
  | false=>simp
  | true =>
   rw [fresh_app,fresh_app,rise_fresh h1,rise_fresh h2,noneIn_app];rw [Bool.eq_iff_iff];simp only [Bool.and_eq_true];constructor
   ·rintro ⟨⟨a,-⟩,⟨b,-⟩,⟨d,e⟩,f,⟨g,h⟩,i⟩;exact ⟨trivial,trivial,a,b,d,⟨⟨trivial,trivial,i⟩,e,g,h⟩,f⟩
   ·rintro ⟨-,-,a,b,d,⟨⟨-,-,i⟩,e,g,h⟩,f⟩;exact ⟨⟨a,trivial⟩,⟨b,trivial⟩,⟨d,e⟩,f,⟨g,h⟩,i⟩
theorem askIn_ok {c:Bus} {asked:List Int} (hb:busOk c=true) (hl:asked.length=3) (h:askIn c asked=true):AskOk c asked:=by
 have hp:=busOk_progs hb;refine ⟨hl,hp,fun k hk hk'=>?_⟩;unfold askIn at h;rw [List.all_eq_true] at h;have h1:=inB_true.1 (h k (List.mem_range.2 (by omega)));simp only [hk,hk',getElem?_pos,Option.getD_some] at h1;refine ⟨h1.1,h1.2,?_⟩;unfold busOk at hb;simp only [Bool.and_eq_true,List.all_eq_true] at hb;have:=hb.2.2.2.2 c.progs[k] (List.getElem_mem hk');unfold progOk at this;simp only [Bool.and_eq_true,decide_eq_true_eq] at this;exact this.1
end Go.Proofs.Ytmcjklicepaiaaa
