/-
 Texts of this claim laid together: Region.
-/
import Derived.Orders
import Derived.RegionTactic
import Derived.Tactics
set_option linter.unusedVariables false
set_option linter.unusedSimpArgs false
namespace Go.Proofs.Ytmcjklicepaiaaa
open Go
variable {P:Program} {ops:Array Oper} {Q:Exit->Act->World->Prop}
theorem wpAny_inv (J:Array Bool->Act->World->Prop)
 (hback:∀ (i:Nat) (o:Oper),ops[i]?=some o->∀ e:Edge,e∈o.after->Region.binds .any e=true->e.on<i)
 (hstep:∀ (listed:Array Bool) (a:Act) (w:World) (i:Nat) (o:Oper),ops[i]?=some o->listed.size=ops.size->listed.getD i true=false->(∀ e:Edge,e∈o.after->Region.binds .any e=true->listed.getD e.on false=true)->J listed a w ->
  wpOp P ops Q i (fun a' w'=>J (listed.setIfInBounds i true) a' w') a w)
 (hend:∀ (listed:Array Bool) (a:Act) (w:World),listed.size=ops.size->(∀ i,i<ops.size->listed.getD i false=true)->J listed a w->Q .normal a w) :
 ∀ (fuel:Nat) (listed:Array Bool) (a:Act) (w:World),listed.size=ops.size->(listed.toList.count false<=fuel)->J listed a w->wpAny P .any ops Q fuel listed a w:=by
 have hnil:∀ listed:Array Bool,listed.size=ops.size->Region.ready .any ops listed=[]->∀ i,i<ops.size->listed.getD i false=true:=by
  intro listed hsz hr i
  induction i using Nat.strongRecOn with
  | ind i ih =>
   intro hi;rcases Bool.eq_false_or_eq_true (listed.getD i false) with h|h
   ·exact h
   ·exfalso;have hlt:i<listed.size:=by omega
    have hf:listed.getD i true=false:=by
     rw [Array.getD,dif_pos hlt] at h ⊢;exact h
    obtain ⟨o,ho⟩:∃ o,ops[i]?=some o:=⟨_,Array.getElem?_eq_getElem hi⟩;have hm:i∈Region.ready .any ops listed:=by
     unfold Region.ready;rw [List.mem_filter];refine ⟨List.mem_range.2 hi,?_⟩;rw [hf,ho];simp only [Bool.not_false,Bool.true_and,Option.map_some,Option.getD_some];rw [Array.all_eq_true_iff_forall_mem];intro e he;rcases Bool.eq_false_or_eq_true (Region.binds .any e) with hb|hb
     ·have h1:=hback i o ho e he hb;simp [ih e.on h1 (by omega)]
     ·simp [hb]
    rw [hr] at hm;simp at hm
 intro fuel
 induction fuel with
 | zero =>
  intro listed a w hsz hc hJ;have hall:∀ i,i<ops.size->listed.getD i false=true:=by
   intro i hi;have hlt:i<listed.size:=by omega
   rw [Array.getD,dif_pos hlt];rcases Bool.eq_false_or_eq_true listed[i] with h|h
   ·exact h
   ·exfalso;have hmem:false∈listed.toList:=by rw [<- h];exact Array.getElem_mem_toList _
    have:=List.count_pos_iff.2 hmem;omega
  refine ⟨?_,hend listed a w hsz hall hJ⟩;unfold Region.ready;rw [List.filter_eq_nil_iff];intro i hi;have hi':=List.mem_range.1 hi;have h1:=hall i hi';have hlt:i<listed.size:=by omega
  have h2:listed.getD i true=true:=by
   rw [Array.getD,dif_pos hlt] at h1 ⊢;exact h1
  simp [h2]
 | succ fuel ih =>
  intro listed a w hsz hc hJ;refine ⟨fun hr=>hend listed a w hsz (hnil listed hsz hr) hJ,fun i hi=>?_⟩;unfold Region.ready at hi;rw [List.mem_filter] at hi;obtain ⟨hi,hq⟩:=hi;have hi':=List.mem_range.1 hi;obtain ⟨o,ho⟩:∃ o,ops[i]?=some o:=⟨_,Array.getElem?_eq_getElem hi'⟩;rw [ho] at hq;simp only [Option.map_some,Option.getD_some,Bool.and_eq_true,Bool.not_eq_true',Array.all_eq_true_iff_forall_mem,Bool.or_eq_true] at hq;refine wpOp_mono (fun a' w' hJ'=>ih _ a' w' (by simpa using hsz) ?_ hJ') (hstep listed a w i o ho hsz hq.1 (fun e he hb=>?_) hJ)
  ·have hlt:i<listed.size:=by omega
   have hf:listed[i]=false:=by
    have:=hq.1;rw [Array.getD,dif_pos hlt] at this;exact this
   rw [Array.toList_setIfInBounds,List.count_set (by simpa using hlt)];have hmem:false∈listed.toList:=by rw [<- hf];exact Array.getElem_mem_toList _
   have hp:=List.count_pos_iff.2 hmem;rw [if_pos (by simp [hf]),if_neg (by simp)];omega
  ·rcases hq.2 e he with h|h
   ·rw [hb] at h;simp at h
   ·exact h
/-! ### The frame behind any part of the operations -/
def dstOf (ops:Array Oper) (i:Nat):Option Tmp:=(ops[i]?).bind (·.dst)
def fill (ops:Array Oper) (u:Nat->Value) (L:Nat->Bool) (a0:Act):Nat->Act
 | 0=>a0
 | n+1=>if L n then (fill ops u L a0 n).put (dstOf ops n) (u n) else fill ops u L a0 n
def lastW (ops:Array Oper) (L:Nat->Bool) (t:Tmp):Nat->Option Nat
 | 0=>none
 | n+1=>if L n && (dstOf ops n == some t) then some n else lastW ops L t n
theorem put_size (a:Act) (d:Option Tmp) (v:Value):(a.put d v).tmps.size=a.tmps.size:=by cases d<;>simp [Act.put]
theorem fill_size (u:Nat->Value) (L:Nat->Bool) (a0:Act) (n:Nat):(fill ops u L a0 n).tmps.size=a0.tmps.size:=by
 induction n with
 | zero=>rfl
 | succ n ih=>unfold fill;split<;>simp [put_size,ih]
theorem eval_put_tmp (a:Act) (d t:Tmp) (v:Value) (hd:d<a.tmps.size):(a.put (some d) v).eval (.tmp t)=if d=t then v else a.eval (.tmp t):=by
 by_cases h:d=t
 ·subst h;simp [Act.put,Act.eval,hd]
 ·simp [Act.put,Act.eval,h,Array.getElem?_setIfInBounds_ne h]
theorem fill_eval (u:Nat->Value) (L:Nat->Bool) (a0:Act) (hsz:∀ i d,dstOf ops i=some d->d<a0.tmps.size) (t:Tmp) (n:Nat) :
 (fill ops u L a0 n).eval (.tmp t)=match lastW ops L t n with|some j=>u j|none=>a0.eval (.tmp t):=by
 induction n with
 | zero=>rfl
 | succ n ih =>
  unfold fill lastW;by_cases hL:L n
  ·rw [if_pos hL];cases hd:dstOf ops n with
   | none=>simp [hL,Act.put,ih]
   | some d =>
    rw [eval_put_tmp _ _ _ _ (by rw [fill_size];exact hsz n d hd)];by_cases hdt:d=t
    ·simp [hL,hdt]
    ·simp [hL,hdt,ih]
  ·simp [hL,ih]
theorem fill_put_lt (u:Nat->Value) (L:Nat->Bool) (a0:Act) (i:Nat) (v:Value) (n:Nat) (h:n<=i) :
 fill ops (fun j=>if j=i then v else u j) (fun j=>L j || (j == i)) a0 n=fill ops u L a0 n:=by
 induction n with
 | zero=>rfl
 | succ n ih =>
  have hn:n≠i:=by omega
  unfold fill;simp [hn,ih (by omega)]
theorem fill_put (u:Nat->Value) (L:Nat->Bool) (a0:Act) (i:Nat) (v:Value) (hi:L i=false) (n:Nat) (h:i<n) (hno:∀ j d,i<j->L j=true->dstOf ops i=some d->dstOf ops j≠some d) :
 fill ops (fun j=>if j=i then v else u j) (fun j=>L j || (j == i)) a0 n=(fill ops u L a0 n).put (dstOf ops i) v:=by
 induction n with
 | zero=>omega
 | succ n ih =>
  by_cases hn:n=i
  ·subst hn;unfold fill;rw [fill_put_lt u L a0 n v n (Nat.le_refl _)];simp [hi]
  ·unfold fill;rw [ih (by omega)];by_cases hL:L n
   ·simp only [hL,Bool.true_or,if_true,if_neg hn];exact Act.put_comm _ _ _ (fun d hd=>hno n d (by omega) hL hd)
   ·simp [hL,hn]
theorem lastW_congr (L L':Nat->Bool) (t:Tmp) (n:Nat) (h:∀ j,j<n->dstOf ops j=some t->L j=L' j):lastW ops L t n=lastW ops L' t n:=by
 induction n with
 | zero=>rfl
 | succ n ih =>
  unfold lastW;rw [ih fun j hj=>h j (by omega)];by_cases hd:dstOf ops n=some t
  ·rw [h n (by omega) hd]
  ·have:(dstOf ops n == some t)=false:=by simpa using hd
   simp [this]
theorem lastW_stop (L:Nat->Bool) (t:Tmp) (i n:Nat) (hin:i<=n) (h:∀ j,i<=j->j<n->dstOf ops j=some t->L j=false):lastW ops L t n=lastW ops L t i:=by
 induction n with
 | zero => obtain rfl : i = 0 := by omega
           rfl
 | succ n ih =>
  by_cases hi:i=n+1
  ·subst hi;rfl
  ·rw [<- ih (by omega) fun j h1 h2=>h j h1 (by omega)]
   conv=>lhs;unfold lastW
   by_cases hd:dstOf ops n=some t
   ·rw [h n (by omega) (by omega) hd];simp
   ·have:(dstOf ops n == some t)=false:=by simpa using hd
    simp [this]
def rho (ops:Array Oper) (a0:Act) (u:Nat->Value) (i:Nat):Operand->Value
 | .tmp t=>match lastW ops (fun _=>true) t i with|some j=>u j|none=>a0.eval (.tmp t)
 | x=>a0.eval x
def tmpsOf (o:Oper):List Tmp:=o.op.operands.toList.filterMap fun | .tmp t=>some t|_=>none
def Owes (P:Program) (ops:Array Oper) (Q:Exit->Act->World->Prop) (T:Nat->List Nat) (R:Nat->Value->World->Prop) (I:Nat->World->Prop) (a0:Act) (i:Nat):Prop :=
 ∀ o,ops[i]?=some o->∀ (u:Nat->Value) (m:Nat) (w:World),m<ops.size->I m w->(∀ j,j∈T i->R j (u j) w)->∀ a:Act,(∀ x,x∈o.op.operands->a.eval x=rho ops a0 u i x) ->
  o.wp P a w (fun a' w'=>∃ v,a'=a.put o.dst v∧R i v w'∧I (m+1) w'∧∀ j x,R j x w->R j x w') Q
def setAll:List (Option Tmp)->(Nat->Value)->Nat->List Value->List Value
 | [],_,_,L=>L
 | none::ds,u,k,L=>setAll ds u (k+1) L
 | some d::ds,u,k,L=>setAll ds u (k+1) (L.set d (u k))
theorem setAll_snoc (ds:List (Option Tmp)) (d:Option Tmp) (u:Nat->Value):∀ (k:Nat) (L:List Value),setAll (ds++[d]) u k L=match d with|none=>setAll ds u k L|some d=>(setAll ds u k L).set d (u (k+ds.length)):=by
 induction ds with
 | nil=>intro k L;cases d<;>rfl
 | cons e ds ih =>
  intro k L;cases e with
  | none =>
   rw [List.cons_append,setAll,ih];cases d<;>simp [setAll,Nat.add_comm,Nat.add_left_comm]
  | some e =>
   rw [List.cons_append,setAll,ih];cases d<;>simp [setAll,Nat.add_comm,Nat.add_left_comm]
theorem fill_setAll {L:List Value} {df:List Deferred} {ds:List (Option Tmp)} (hd:ops.toList.map (·.dst)=ds) (u:Nat->Value) :
 fill ops u (fun _=>true) ⟨L.toArray,df⟩ ops.size=⟨(setAll ds u 0 L).toArray,df⟩:=by
 have hl:ds.length=ops.size:=by rw [<- hd];simp
 have hg:∀ n,n<ds.length->ds[n]?=some (dstOf ops n):=by
  intro n hn;have hn':n<ops.size:=by omega
  rw [<- hd];simp [dstOf,hn']
 have main:∀ n,n<=ds.length->fill ops u (fun _=>true) ⟨L.toArray,df⟩ n=⟨(setAll (ds.take n) u 0 L).toArray,df⟩:=by
  intro n
  induction n with
  | zero=>intro _;rfl
  | succ n ih =>
   intro hn;have e:ds.take (n+1)=ds.take n++[dstOf ops n]:=by
    rw [List.take_add_one,hg n (by omega)];rfl
   rw [e,setAll_snoc];unfold fill;rw [ih (by omega)];cases dstOf ops n with
   | none=>rfl
   | some d=>simp [Act.put,Nat.min_eq_left (show n<=ds.length by omega)]
 rw [<- hl,main _ (Nat.le_refl _),List.take_length]
/-! ### One operation,walked alone in a frame that is written out -/
def Via (a1:Act) (o:Oper) (G:Value->World->Prop):Exit->Act->World->Prop:=fun ex a' w'=>ex = .normal∧∃ v,a'=a1.put o.dst v∧G v w'
theorem put_inj {a:Act} {d:Tmp} {v v':Value} (hd:d<a.tmps.size) (h:a.put (some d) v=a.put (some d) v'):v=v':=by
 have e:=congrArg (fun x:Act=>x.eval (.tmp d)) h;simpa [eval_put_tmp _ _ _ _ hd] using e
theorem wp_via {o:Oper} {a a1:Act} {w:World} {G:Value->World->Prop} (hg:o.guard=none) (hs:∀ cs b,o.op ≠ .select cs b) (he:∀ x,x∈o.op.operands->a.eval x=a1.eval x) (hd:∀ d,o.dst=some d->d<a1.tmps.size)
 (h:wpList P #[] (Via a1 o G) [o] a1 w):o.wp P a w (fun a' w'=>∃ v,a'=a.put o.dst v∧G v w') Q:=by
 have hwant:Region.wanted o (yielded #[] a1.tmps)=true:=by simp [Region.wanted,hg]
 unfold wpList at h;rw [if_pos hwant] at h;rcases h with h|⟨_,_,_,h,_⟩
 ·have key:∀ v w',Via a1 o G .normal (a1.put o.dst v) w'->∃ v',a.put o.dst v=a.put o.dst v'∧G v' w':=by
   intro v w' ⟨_,v',e,hG⟩;cases hdd:o.dst with
   | none=>exact ⟨v',rfl,hG⟩
   | some d =>
    rw [hdd] at e;obtain rfl:=put_inj (hd d hdd) e;exact ⟨v,rfl,hG⟩
  unfold Oper.wp at h ⊢;rw [execOp_congr (ρ:=a.eval) (ρ':=a1.eval) o hs he];generalize (execOp a1.eval o).run P w=r at *;cases r with
  | ok n w' =>
   cases n with
   | value v=>exact key v w' h
   | skip=>exact key undef w' h
   | defer d =>
    obtain ⟨_,v',e,_⟩:=h;have:=congrArg Act.defers e;exfalso;cases hdd:o.dst<;>simp [hdd,Act.put] at this
   | enter f args =>
    refine Calls.mono h fun e w'' he=>?_;cases e with
    | returned v=>exact key v w'' he
    | panicked c=>exact absurd he.1 (by simp)
    | outgrown=>obtain ⟨_,_,h,_⟩:=he;simp at h
   | row r args=>exact Rows.mono h fun v w'' he=>key v w'' he
   | _=>exact h.elim
  | halt x w' =>
   cases x<;>first|exact h.elim|exact absurd h.1 (by simp)
 ·simp at h
theorem Owes.mk {T:Nat->List Nat} {R:Nat->Value->World->Prop} {I:Nat->World->Prop} {a0:Act} {i:Nat} (o:Oper) (ho:ops[i]?=some o) (hg:o.guard=none) (hs:∀ cs b,o.op ≠ .select cs b)
 (h:∀ (u:Nat->Value) (m:Nat) (w:World),m<ops.size->I m w->(∀ j,j∈T i->R j (u j) w)->∃ a1:Act,o.op.operands.toList.map (rho ops a0 u i)=o.op.operands.toList.map a1.eval∧(∀ d,o.dst=some d->d<a1.tmps.size) ∧
  wpList P #[] (Via a1 o (fun v w'=>R i v w'∧I (m+1) w'∧∀ j x,R j x w->R j x w')) [o] a1 w):Owes P ops Q T R I a0 i:=by
 intro o' ho' u m w hm hI hR a hev;obtain rfl:o'=o:=Option.some.inj (ho'.symm.trans ho);obtain ⟨a1,h1,h2,h3⟩:=h u m w hm hI hR;have h1':∀ x,x∈o'.op.operands->rho ops a0 u i x=a1.eval x:=fun x hx=>List.map_inj_left.1 h1 x (by simpa using hx);exact wp_via hg hs (fun x hx=>(hev x hx).trans (h1' x hx)) h2 h3
def AllLt:Nat->(Nat->Prop)->Prop
 | 0,_=>True
 | n+1,p=>AllLt n p∧p n
theorem all_lt:∀ {n:Nat} {p:Nat->Prop},AllLt n p->∀ i,i<n->p i:=by
 intro n
 induction n with
 | zero=>intro p _ i hi;omega
 | succ n ih =>
  intro p h i hi;by_cases e:i=n
  ·subst e;exact h.2
  ·exact ih h.1 i (by omega)
end Go.Proofs.Ytmcjklicepaiaaa
