/-
 Texts of this claim laid together: Region7 TSD.
-/
import Derived.Test.YtmcjklicepaiaaaPk28
set_option linter.unusedVariables false
set_option linter.unusedSimpArgs false
namespace Go.Proofs.Ytmcjklicepaiaaa
open Go
variable {P:Program} {ops:Array Oper} {Q:Exit->Act->World->Prop}
def Owes7 (P:Program) (ops:Array Oper) (Q:Exit->Act->World->Prop) (T:Nat->List Nat) (R:Nat->Value->World->Prop) (I:(Nat->Bool)->(Nat->Value)->Nat->World->Prop) (a0:Act) (i:Nat):Prop :=
 ∀ o,ops[i]?=some o->∀ (u:Nat->Value) (m:Nat) (w:World),m<ops.size->∀ ls:Nat->Bool,I ls u m w->ls i=false->(∀ k,ls k=true->∀ j,j∈T k->ls j=true)->(∀ j,j∈T i->ls j=true)->(∀ j,j∈T i->R j (u j) w)->∀ a:Act,(∀ x,x∈o.op.operands->a.eval x=rho ops a0 u i x) ->
  o.wp P a w (fun a' w'=>∃ v,a'=a.put o.dst v∧R i v w'∧I (fun j=>decide (j=i) || ls j) (fun j=>if j=i then v else u j) (m+1) w'∧∀ j x,j≠i->i∉T j->R j x w->R j x w') Q
theorem Owes7.mk {T:Nat->List Nat} {R:Nat->Value->World->Prop} {I:(Nat->Bool)->(Nat->Value)->Nat->World->Prop} {a0:Act} {i:Nat} (o:Oper) (ho:ops[i]?=some o) (hg:o.guard=none) (hs:∀ cs b,o.op ≠ .select cs b)
 (h:∀ (u:Nat->Value) (m:Nat) (w:World),m<ops.size->∀ ls:Nat->Bool,I ls u m w->ls i=false->(∀ k,ls k=true->∀ j,j∈T k->ls j=true)->(∀ j,j∈T i->ls j=true)->(∀ j,j∈T i->R j (u j) w)->∃ a1:Act,o.op.operands.toList.map (rho ops a0 u i)=o.op.operands.toList.map a1.eval∧(∀ d,o.dst=some d->d<a1.tmps.size) ∧
  wpList P #[] (Via a1 o (fun v w'=>R i v w'∧I (fun j=>decide (j=i) || ls j) (fun j=>if j=i then v else u j) (m+1) w'∧∀ j x,j≠i->i∉T j->R j x w->R j x w')) [o] a1 w):Owes7 P ops Q T R I a0 i:=by
 intro o' ho' u m w hm ls hI hli hld hlT hR a hev;obtain rfl:o'=o:=Option.some.inj (ho'.symm.trans ho);obtain ⟨a1,h1,h2,h3⟩:=h u m w hm ls hI hli hld hlT hR;have h1':∀ x,x∈o'.op.operands->rho ops a0 u i x=a1.eval x:=fun x hx=>List.map_inj_left.1 h1 x (by simpa using hx);exact wp_via hg hs (fun x hx=>(hev x hx).trans (h1' x hx)) h2 h3
theorem region_tail7_gen {Goal : Prop} {a0 : Act} {wI : World} (hX : ∀ J : Array Bool -> Act -> World -> Prop,
      (∀ (i : Nat) (o : Oper), ops[i]? = some o -> ∀ e : Edge, e ∈ o.after -> Region.binds .any e = true -> e.on < i) ->
      (∀ (listed:Array Bool) (a:Act) (w:World) (i:Nat) (o:Oper),ops[i]?=some o->listed.size=ops.size->listed.getD i true=false->(∀ e:Edge,e∈o.after->Region.binds .any e=true->listed.getD e.on false=true)->J listed a w ->
       wpOp P ops Q i (fun a' w'=>J (listed.setIfInBounds i true) a' w') a w) ->
      (∀ (listed:Array Bool) (a:Act) (w:World),listed.size=ops.size->(∀ i,i<ops.size->listed.getD i false=true)->J listed a w->Q .normal a w)->J (Array.replicate ops.size false) a0 wI->Goal)
 (T:Nat->List Nat) (R:Nat->Value->World->Prop) (I:(Nat->Bool)->(Nat->Value)->Nat->World->Prop) (size k:Nat) (hk:k<=ops.size)
 (hsize:a0.tmps.size=size) (hok:okRegionG ops T size=true) (htl:okTail ops T k=true) (hgd:∀ i o g b,i<k->ops[i]?=some o->o.guard=some (g,b)->∀ v w,R g v w->v = .bool b) (h0:∀ ls u,(∀ i,ls i=false)->I ls u 0 wI) (hop:∀ i,i<k->Owes7 P ops Q T R I a0 i)
 (hend:∀ (ls:Nat->Bool) (u:Nat->Value) (w':World),(∀ i,i<k->ls i=true)->I ls u k w'->(∀ i,i<k->R i (u i) w')->wpOps P ops Q (List.range' k (ops.size - k)) (fill ops u (fun _=>true) a0 k) w'):Goal:=by
 have at':=fun {i o} (ho:ops[i]?=some o)=>okRegionG_at hok ho;have hdst:∀ i d,dstOf ops i=some d->d<a0.tmps.size:=by
  intro i d hd;cases ho:ops[i]? with
  | none=>simp [dstOf,ho] at hd
  | some o=>rw [hsize];exact (at' ho).dst d (by simpa [dstOf,ho] using hd)
 have full:∀ (listed:Array Bool) (m:Nat),listed.size=ops.size->m+listed.toList.count false=ops.size->(∀ i,k<=i->listed.getD i false=false)->(∀ i,i<k->listed.getD i false=true)->m=k:=by
  intro listed m hsz hcnt hno hyes;have e:listed.toList=List.replicate k true++List.replicate (ops.size - k) false:=by
   refine List.ext_getElem (by simp;omega) fun i h1 h2=>?_;have hi:i<listed.size:=by simpa using h1
   by_cases hik:i<k
   ·have:=hyes i hik;rw [Array.getD,dif_pos hi] at this;rw [List.getElem_append_left (by simpa using hik)];simpa using this
   ·have:=hno i (by omega);rw [Array.getD,dif_pos hi] at this;rw [List.getElem_append_right (by simp;omega)];simpa using this
  rw [e,List.count_append,List.count_replicate,List.count_replicate] at hcnt;simp at hcnt;omega
 refine hX (fun listed a w => (∃ (u : Nat -> Value) (m : Nat), (∀ i, k <= i -> listed.getD i false = false) ∧ m + listed.toList.count false = ops.size ∧ a = fill ops u (fun i => listed.getD i false) a0 ops.size ∧
     (∀ i, i < ops.size -> listed.getD i false = true -> ∀ j, j ∈ T i -> listed.getD j false = true) ∧ (∀ i, i < ops.size -> listed.getD i false = true -> R i (u i) w) ∧ I (fun i => listed.getD i false) u m w) ∨
     ∃ q,k<=q∧q<=ops.size∧(∀ i,i<ops.size->listed.getD i false=decide (i<q))∧wpOps P ops Q (List.range' q (ops.size - q)) a w)
  (fun i o ho=>(at' ho).back) ?_ ?_ ?_
 ·intro listed a w i o ho hsz hli hdeps hJ;have hi:i<ops.size:=(Array.getElem?_eq_some_iff.1 ho).1;have hil:i<listed.size:=by omega
  have A:=at' ho;have hset:∀ j,(listed.setIfInBounds i true).getD j false=(listed.getD j false || (j == i)):=by
   intro j;by_cases hji:j=i
   ·subst hji;simp [hil]
   ·simp [Array.getD_eq_getD_getElem?,Array.getElem?_setIfInBounds_ne (Ne.symm hji),hji]
  have hlf:listed.getD i false=false:=by
   rw [Array.getD,dif_pos hil] at hli ⊢;exact hli
  have goOn:∀ q,q=i->k<=q->(∀ j,j<ops.size->listed.getD j false=decide (j<q))->wpOps P ops Q (List.range' q (ops.size - q)) a w->wpOp P ops Q i (fun a' w'=>(∃ (u:Nat->Value) (m:Nat),(∀ i_1,k<=i_1->(listed.setIfInBounds i true).getD i_1 false=false)∧m+(listed.setIfInBounds i true).toList.count false=ops.size∧a'=fill ops u (fun j=>(listed.setIfInBounds i true).getD j false) a0 ops.size ∧
   (∀ i_1,i_1<ops.size->(listed.setIfInBounds i true).getD i_1 false=true->∀ j,j∈T i_1->(listed.setIfInBounds i true).getD j false=true)∧(∀ i_1,i_1<ops.size->(listed.setIfInBounds i true).getD i_1 false=true->R i_1 (u i_1) w')∧I (fun j=>(listed.setIfInBounds i true).getD j false) u m w') ∨
   ∃ q,k<=q∧q<=ops.size∧(∀ j,j<ops.size->(listed.setIfInBounds i true).getD j false=decide (j<q))∧wpOps P ops Q (List.range' q (ops.size - q)) a' w') a w:=by
   intro q hq hkq hl hw;subst hq;rw [show ops.size - q=(ops.size - (q+1))+1 by omega,List.range'_succ,wpOps_cons] at hw;refine wpOp_mono (fun a' w' h=>.inr ⟨q+1,by omega,by omega,fun j hj=>?_,h⟩) hw;rw [hset,hl j hj,Bool.eq_iff_iff];simp;omega
  have hdown':∀ j,j<i->k<=i->(∀ e:Edge,e∈o.after->Region.binds .any e=true->∀ q,q∈T e.on->listed.getD q false=true)->listed.getD j false=true:=by
   intro j hj hki hd;obtain ⟨_,e,he,hb,h⟩:=A.anc j (okTail_at htl hi hki hj);rcases h with h|h
   ·rw [<- h];exact hdeps e he hb
   ·exact hd e he hb j h
  rcases hJ with ⟨u,m,hno,hcnt,ha,hdown,hR,hI⟩|⟨q,hkq,hqn,hl,hw⟩
  rotate_left
  ·-- behind the open part
   have hiq:q<=i:=by
    rcases Nat.lt_or_ge i q with h|h
    ·have:=hl i hi;rw [hlf] at this;simp at this;omega
    ·exact h
   have:∀ j,j<i->listed.getD j false=true:=fun j hj=>hdown' j hj (by omega) fun e he hb p hp=>by
    have h1:=A.back e he hb;have h2:=hdeps e he hb;rw [hl e.on (by omega)] at h2;have h3:e.on<q:=of_decide_eq_true h2;obtain ⟨oo,hoo⟩:∃ oo,ops[e.on]?=some oo:=⟨_,Array.getElem?_eq_getElem (by omega)⟩;have h4:=((at' hoo).anc p hp).1;rw [hl p (by omega)];exact decide_eq_true (by omega)
   have hqi:q=i:=by
    rcases Nat.lt_or_ge q i with h|h
    ·have h1:=this q h;rw [hl q (by omega)] at h1;have:=of_decide_eq_true h1;omega
    ·omega
   exact goOn q hqi hkq hl hw
  by_cases hik:k<=i
  ·-- the first one behind the open part
   have hall:∀ j,j<i->listed.getD j false=true:=fun j hj=>hdown' j hj hik fun e he hb p hp=>hdown e.on (by have:=A.back e he hb;omega) (hdeps e he hb) p hp;have hki:k=i:=by
    rcases Nat.lt_or_ge k i with h|h
    ·have h1:=hall k h;rw [hno k (Nat.le_refl _)] at h1;simp at h1
    ·omega
   have hyes:∀ j,j<k->listed.getD j false=true:=fun j hj=>hall j (by omega);obtain rfl:=full listed m hsz hcnt hno hyes;have hw:=hend _ u w (fun j hj=>hyes j hj) hI (fun j hj=>hR j (by omega) (hyes j hj));rw [<- fill_upto u (fun i=>listed.getD i false) a0 m (fun j hj=>hno j hj) hyes ops.size hk,<- ha] at hw;exact goOn m hki (Nat.le_refl _) (fun j hj=>by
    by_cases h1:j<m
    ·rw [hyes j h1];exact (decide_eq_true h1).symm
    ·rw [hno j (by omega)];exact (decide_eq_false h1).symm) hw
  have hlf':listed[i]=false:=by rw [Array.getD,dif_pos hil] at hlf;exact hlf
  have hT:∀ j,j∈T i->listed.getD j false=true:=by
   intro j hj;obtain ⟨_,e,he,hb,h⟩:=A.anc j hj;have h1:=hdeps e he hb;rcases h with h|h
   ·rw [<- h];exact h1
   ·exact hdown e.on (by have:=A.back e he hb;omega) h1 j h
  have hwr:∀ t,t∈tmpsOf o++o.dst.toList->∀ j,j<ops.size->dstOf ops j=some t->i<j->listed.getD j false=false:=by
   intro t ht j hj hdj hij;rcases Bool.eq_false_or_eq_true (listed.getD j false) with h|h
   ·have:=hdown j hj h i (((A.order t ht j hj (by omega) hdj).2 hij));rw [hlf] at this;simp at this
   ·exact h
  have hev:∀ x,x∈o.op.operands->a.eval x=rho ops a0 u i x:=by
   intro x hx;subst ha;cases x with
   | tmp t =>
    have ht:t∈tmpsOf o++o.dst.toList:=List.mem_append_left _ (List.mem_filterMap.2 ⟨.tmp t,by simpa using hx,rfl⟩);rw [fill_eval u _ a0 hdst];have e:lastW ops (fun i=>listed.getD i false) t ops.size=lastW ops (fun _=>true) t i:=by
     rw [lastW_stop _ t i ops.size (by omega)]
     ·exact lastW_congr _ _ t i fun j hj hdj=>hT j ((A.order t ht j (by omega) (by omega) hdj).1 hj)
     ·intro j h1 h2 hdj;by_cases hji:j=i
      ·subst hji;exact hlf
      ·exact hwr t ht j h2 hdj (by omega)
    rw [e];rfl
   | const v=>rfl
   | global g=>rfl
   | func f=>rfl
  have hmem0:false∈listed.toList:=by rw [<- hlf'];exact Array.getElem_mem_toList _
  have hpos:=List.count_pos_iff.2 hmem0
  have hw := hop i (by omega) o ho u m w (by omega) _ hI hlf (fun k hk j hj => hdown k (by
      rcases Nat.lt_or_ge k ops.size with h | h
      ·exact h
      ·rw [Array.getD,dif_neg (by omega)] at hk;simp at hk) hk j hj) hT (fun j hj=>hR j (by have:=(A.anc j hj).1;omega) (hT j hj)) a hev
  unfold wpOp;rw [ho];have hwant:Region.wanted o (yielded ops a.tmps)=true:=by
   rcases A.guard with hg|⟨g,b,d,hg,hgT,hgd1,hds,hon⟩
   ·simp [Region.wanted,hg]
   ·have hgl:=hT g hgT;have hgi:g<i:=(A.anc g hgT).1;have hv:u g = .bool b:=hgd i o g b (by omega) ho hg _ _ (hR g (by omega) hgl);have he:=fill_eval (ops:=ops) u (fun i=>listed.getD i false) a0 hdst d ops.size;rw [lastW_only hgd1 hgl ops.size (by omega) hon,<- ha] at he;simp only [hv] at he;have hy:yielded ops a.tmps g=some b:=by
     unfold yielded;unfold dstOf at hgd1;cases hog:ops[g]? with
     | none=>rw [hog] at hgd1;simp at hgd1
     | some og =>
      rw [hog] at hgd1;simp only [Option.bind_some] at hgd1;simp only [Act.eval,Array.getD_eq_getD_getElem?] at he;simp [hgd1];cases hx:a.tmps[d]? with
      | none=>rw [hx] at he;simp [undef] at he
      | some y=>rw [hx] at he;simp at he;subst he;rfl
    simp [Region.wanted,hg,hy]
  simp only [hwant,if_true];refine .inl (Oper.wp_mono (fun a' w' h=>?_) hw);obtain ⟨v,rfl,hRi,hI',hst⟩:=h;refine .inl ⟨fun j=>if j=i then v else u j,m+1,fun j hj=>by rw [hset,hno j hj];simp;omega,?_,?_,?_,?_,?_⟩
  ·rw [Array.toList_setIfInBounds,List.count_set (by simpa using hil)];have hmem:false∈listed.toList:=by rw [<- hlf'];exact Array.getElem_mem_toList _
   have hp:=List.count_pos_iff.2 hmem;rw [if_pos (by simp [hlf']),if_neg (by simp)];omega
  ·have hd:dstOf ops i=o.dst:=by simp [dstOf,ho]
   rw [show (fun i_1=>(listed.setIfInBounds i true).getD i_1 false)=(fun j=>(listed.getD j false || (j == i))) from funext hset];rw [fill_put u (fun i=>listed.getD i false) a0 i v hlf ops.size hi,hd,ha];intro j d hij hLj hdi hdj;have hjs:j<ops.size:=by
    rcases Nat.lt_or_ge j ops.size with h|h
    ·exact h
    ·rw [Array.getD,dif_neg (by omega)] at hLj;simp at hLj
   rw [hd] at hdi;have:=hwr d (List.mem_append_right _ (by simp [hdi])) j hjs hdj hij;rw [this] at hLj;simp at hLj
  ·intro k hk hlk j hj;rw [hset] at hlk ⊢;rcases Bool.or_eq_true _ _ ▸ hlk with h|h
   ·rw [hdown k hk h j hj];rfl
   ·obtain rfl:k=i:=by simpa using h
    rw [hT j hj];rfl
  ·intro k hk hlk;rw [hset] at hlk;by_cases hki:k=i
   ·subst hki;simpa using hRi
   ·simp only [hki,if_false];have hlk':listed.getD k false=true:=by simpa [hki] using hlk
    refine hst k _ hki (fun hm=>?_) (hR k hk hlk');have:=hdown k hk hlk' i hm;rw [hlf] at this;cases this
  ·rw [show (fun j=>(listed.setIfInBounds i true).getD j false)=(fun j=>decide (j=i) || listed.getD j false) from funext fun j=>by rw [hset,Bool.or_comm];rfl];exact hI'
 ·intro listed a w hsz hall hJ;rcases hJ with ⟨u,m,hno,hcnt,ha,hdown,hR,hI⟩|⟨q,hkq,hqn,hl,hw⟩
  ·have hkn:k=ops.size:=by
    rcases Nat.lt_or_ge k ops.size with h|h
    ·have h1:=hall k h;rw [hno k (Nat.le_refl _)] at h1;simp at h1
    ·omega
   have hyes:∀ j,j<k->listed.getD j false=true:=fun j hj=>hall j (by omega);obtain rfl:=full listed m hsz hcnt hno hyes;have hw:=hend _ u w (fun j hj=>hyes j hj) hI (fun j hj=>hR j (by omega) (hyes j hj));rw [<- fill_upto u (fun i=>listed.getD i false) a0 m (fun j hj=>hno j hj) hyes ops.size hk,<- ha,show ops.size - m=0 by omega] at hw;exact hw
  ·have hqn':q=ops.size:=by
    rcases Nat.lt_or_ge q ops.size with h|h
    ·have h1:=hall q h;rw [hl q h] at h1;have:=of_decide_eq_true h1;omega
    ·omega
   rw [hqn',Nat.sub_self] at hw;exact hw
 ·have hrep:∀ i,(Array.replicate ops.size false).getD i false=false:=by
   intro i;by_cases h:i<ops.size<;>simp [Array.getD,h]
  refine .inl ⟨fun _=>undef,0,fun i _=>hrep i,by simp,?_,fun i _ h=>by rw [hrep] at h;simp at h,fun i _ h=>by rw [hrep] at h;simp at h,h0 _ _ hrep⟩;have:∀ n,fill ops (fun _=>undef) (fun i=>(Array.replicate ops.size false).getD i false) a0 n=a0:=by
   intro n
   induction n with
   | zero=>rfl
   | succ n ih=>unfold fill;rw [hrep,ih];simp
  exact (this _).symm
theorem wp_region_tail7 {id:Nat} {L:List Value} {df:List Deferred} {w:World} (hm:P.follows .mixedOrders=true) (T:Nat->List Nat) (R:Nat->Value->World->Prop) (I:(Nat->Bool)->(Nat->Value)->Nat->World->Prop) (size n k:Nat) (ds:List (Option Tmp)) (tl:List Oper)
 (hsize:L.length=size) (hn:ops.size=n) (hk:k<=n) (hd:(ops.toList.take k).map (·.dst)=ds) (htl:ops.toList.drop k=tl) (hok:okRegionG ops T size=true) (hot:okTail ops T k=true) (G:List (Nat × Bool)) (hG:okGuards ops k G=true) (hGR:∀ g b,(g,b)∈G->∀ v w,R g v w->v = .bool b) (h0:∀ ls u,(∀ i,ls i=false)->I ls u 0 w.drew) (hop:∀ i,i<k->Owes7 P ops Q T R I ⟨L.toArray,df⟩ i)
 (hend:∀ (ls:Nat->Bool) (u:Nat->Value) (w':World),(∀ i,i<k->ls i=true)->I ls u k w'->(∀ i,i<k->R i (u i) w')->wpList P ops Q tl ⟨(setAll ds u 0 L).toArray,df⟩ w') :
 (Code.region id ops true).wp P Q ⟨L.toArray,df⟩ w:=by
 subst hn;refine region_tail7_gen (wI:=w.drew) (fun J h1 h2 h3 h4=>wp_region_any hm (wpAny_inv J h1 h2 h3 ops.size _ _ _ (by simp) (by simp) h4)) T R I size k hk (by simpa using hsize) hok hot (fun i o g b hi ho hg=>hGR g b (okGuards_at hG hi ho hg)) h0 hop fun ls u w' hls hI hR=>?_;rw [fill_setAll_take hd u hk];have h:=hend ls u w' hls hI hR;have e:=wpOps_eq_wpList (P:=P) (ops:=ops) (Q:=Q) tl k (fun j=>by rw [<- htl];simp);have hl:tl.length=ops.size - k:=by rw [<- htl];simp
 rw [hl] at e;rw [e];exact h
theorem keep7 {T:Nat->List Nat} {R:Nat->Value->World->Prop} {i:Nat} {w w':World} (h:∀ j x,R j x w->R j x w'):∀ j x,j≠i->i∉T j->R j x w->R j x w':=fun j x _ _ hx=>h j x hx
end Go.Proofs.Ytmcjklicepaiaaa
namespace Go.Proofs.Ytmcjklicepaiaaa
open Go.RowKit Go.WideShapes
def DoI (S:List Nat->List Int->List Int->World->Prop) (L B:List Nat) (T:Tab) (vw vh:Value) (ms hs:List Int) (x:Req) (p0 p1:Value) (fd fl:List Nat) (W:World) (ls:Nat->Bool) (u:Nat->Value) (_:Nat) (w:World):Prop :=
 ∃ Lx ms' hs',(∀ c,c∈L->c∈Lx)∧S Lx ms' hs' w ∧
  (ls 16=false->ms'=ms∧hs'=hs∧Fz (B++Lx) T w (fd++fl)∧SlR 1 intR w x.data p0 fd∧SlR 1 intR w x.lanes p1 fl∧Below W.heap.size W w) ∧
  (ls 16=true->∃ (cod:Int) (dv:Value) (fdv:List Nat) (dl:List Int),u 16 = .tuple #[.agg #[vw,vh],.agg #[.int .i64 x.id,.int .i64 cod,dv]]∧(ls 17=true->u 17 = .tuple #[.agg #[vw,vh],.agg #[.int .i64 x.id,.int .i64 cod,dv]])∧SlR 1 intR w dl dv fdv∧dl.length<=4∧Fz (B++Lx) T w fdv∧(ls 19=true->u 19 = .agg #[.int .i64 x.id,.int .i64 cod,dv])) ∧
  (ls 20=true->∃ q,u 20 = .pointer (some ⟨q,0,none⟩)∧q∈Lx∧W.heap.size<=q∧RoomAt q 2 w∧(ls 22=true->FCs q [vw,vh] undef w)) ∧
  (ls 21=true->∃ q,u 21 = .pointer (some ⟨q,0,none⟩)∧q∈Lx∧W.heap.size<=q∧RoomAt q 3 w) ∧
  (ls 20=true->ls 21=true->u 20≠u 21)∧W.heap.size<=w.heap.size
variable {S:List Nat->List Int->List Int->World->Prop} {L B:List Nat} {T:Tab} {vw vh:Value} {ms hs:List Int} {x:Req} {p0 p1:Value} {fd fl:List Nat} {n:Nat} {ls:Nat->Bool} {u:Nat->Value} {W w w':World}
theorem DoI.start (h:S L ms hs w) (hS:S L ms hs w->S L ms hs w.drew) (hz:Fz (B++L) T w (fd++fl)) (h0:SlR 1 intR w x.data p0 fd) (h1:SlR 1 intR w x.lanes p1 fl) (hl:∀ i,ls i=false):DoI S L B T vw vh ms hs x p0 p1 fd fl w ls u 0 w.drew :=
 have b:=(Below.refl w.heap.size w).drew
 ⟨L,ms,hs,fun _ h=>h,hS h,fun _=>⟨rfl,rfl,hz.step (Step.of_below [] b),h0.below intR_fits b,h1.below intR_fits b,b⟩,fun e=>(by rw [hl] at e;cases e),fun e=>(by rw [hl] at e;cases e),fun e=>(by rw [hl] at e;cases e),fun e=>(by rw [hl] at e;cases e),Nat.le_refl _⟩
theorem DoI.next {i:Nat} {v:Value} (h16:16≠i) (h17:17≠i) (h19:19≠i) (h20:20≠i) (h21:21≠i) (h22:22≠i) (h:DoI S L B T vw vh ms hs x p0 p1 fd fl W ls u n w) :
 DoI S L B T vw vh ms hs x p0 p1 fd fl W (fun j=>decide (j=i) || ls j) (fun j=>if j=i then v else u j) (n+1) w:=by
 unfold DoI at h ⊢;simp only [h16,h17,h19,h20,h21,h22,if_false,decide_false,Bool.false_or];exact h
theorem DoI.pre (h:DoI S L B T vw vh ms hs x p0 p1 fd fl W ls u n w) (l:ls 16=false):∃ Lx,(∀ c,c∈L->c∈Lx)∧S Lx ms hs w∧Fz (B++Lx) T w (fd++fl)∧SlR 1 intR w x.data p0 fd∧SlR 1 intR w x.lanes p1 fl∧Below W.heap.size W w:=by
 obtain ⟨Lx,ms',hs',h1,h2,h3,-⟩:=h;obtain ⟨rfl,rfl,g⟩:=h3 l;exact ⟨Lx,h1,h2,g⟩
theorem DoI.mv {v:Value} (h:DoI S L B T vw vh ms hs x p0 p1 fd fl W ls u n w) (l:ls 16=true) (l19:ls 19=false) (hv:v=u 16):DoI S L B T vw vh ms hs x p0 p1 fd fl W (fun j=>decide (j=17) || ls j) (fun j=>if j=17 then v else u j) (n+1) w:=by
 obtain ⟨Lx,ms',hs',h1,h2,h3,h4,h5⟩:=h;obtain ⟨cod,dv,fdv,dl,e,e17,g1,gl,g2,g3⟩:=h4 l;exact ⟨Lx,ms',hs',h1,h2,h3,fun _=>⟨cod,dv,fdv,dl,e,fun _=>hv.trans e,g1,gl,g2,fun e'=>by
  have e'':ls 19=true:=e';rw [l19] at e'';cases e''⟩,h5⟩
theorem DoI.tup (h:DoI S L B T vw vh ms hs x p0 p1 fd fl W ls u n w) (l:ls 16=true):∃ (cod:Int) (dv:Value),u 16 = .tuple #[.agg #[vw,vh],.agg #[.int .i64 x.id,.int .i64 cod,dv]]∧(ls 17=true->u 17 = .tuple #[.agg #[vw,vh],.agg #[.int .i64 x.id,.int .i64 cod,dv]]) ∧
 DoI S L B T vw vh ms hs x p0 p1 fd fl W (fun j=>decide (j=19) || ls j) (fun j=>if j=19 then .agg #[.int .i64 x.id,.int .i64 cod,dv] else u j) (n+1) w:=by
 obtain ⟨Lx,ms',hs',h1,h2,h3,h4,h5⟩:=h;obtain ⟨cod,dv,fdv,dl,e,e17,g1,gl,g2,-⟩:=h4 l;exact ⟨cod,dv,e,e17,Lx,ms',hs',h1,h2,h3,fun _=>⟨cod,dv,fdv,dl,e,e17,g1,gl,g2,fun _=>rfl⟩,h5⟩
theorem Fz.more {Lx fp:List Nat} {q:Nat} (h:Fz (B++Lx) T w fp) (hb:Below w.heap.size w w') (hq:w.heap.size<=q):Fz (B++q::Lx) T w' fp:=fun d hd=>by
 obtain ⟨g1,g2,g3⟩:=h d hd;refine ⟨g1,?_,Nat.lt_of_lt_of_le g3 hb.size⟩;simp only [List.mem_append,List.mem_cons,not_or] at g2 ⊢;exact ⟨g2.1,by omega,g2.2⟩
theorem DoI.box0 (h:DoI S L B T vw vh ms hs x p0 p1 fd fl W ls u n w) (l22:ls 22=false) (hS:∀ Lx ms hs,(∀ c,c∈L->c∈Lx)->S Lx ms hs w->S (w.heap.size::Lx) ms hs w') (hb:Below w.heap.size w w') (hr:RoomAt w.heap.size 2 w') :
 DoI S L B T vw vh ms hs x p0 p1 fd fl W (fun j=>decide (j=20) || ls j) (fun j=>if j=20 then .pointer (some ⟨w.heap.size,0,none⟩) else u j) (n+1) w':=by
 obtain ⟨Lx,ms',hs',h1,h2,h3,h4,h5,h6,h7,h8⟩:=h;refine ⟨w.heap.size::Lx,ms',hs',fun c hc=>by simp [h1 c hc],hS _ _ _ h1 h2,fun e=>?_,fun e=>?_,fun _=>⟨w.heap.size,rfl,by simp,h8,hr,fun e=>?_⟩,fun e=>?_,fun _ e=>?_,Nat.le_trans h8 hb.size⟩
 ·obtain ⟨g1,g2,g3,g4,g5,g6⟩:=h3 e;exact ⟨g1,g2,g3.more hb (Nat.le_refl _),g4.below intR_fits hb,g5.below intR_fits hb,g6.trans (hb.mono h8)⟩
 ·obtain ⟨cod,dv,fdv,dl,g1,g17,g2,gl,g3,g4⟩:=h4 e;exact ⟨cod,dv,fdv,dl,g1,g17,g2.below intR_fits hb,gl,g3.more hb (Nat.le_refl _),g4⟩
 ·have e':ls 22=true:=e;rw [l22] at e';cases e'
 ·obtain ⟨q,g1,g2,g3,g4⟩:=h6 e;exact ⟨q,g1,by simp [g2],g3,g4.below hb⟩
 ·obtain ⟨q,g1,g2,g3,g4⟩:=h6 e;intro e2;have e3:Value.pointer (some ⟨w.heap.size,0,none⟩)=u 21:=e2;rw [g1] at e3;simp at e3;have:=g4.1;omega
theorem DoI.box1 (h:DoI S L B T vw vh ms hs x p0 p1 fd fl W ls u n w) (l22:ls 22=false) (hS:∀ Lx ms hs,(∀ c,c∈L->c∈Lx)->S Lx ms hs w->S (w.heap.size::Lx) ms hs w') (hb:Below w.heap.size w w') (hr:RoomAt w.heap.size 3 w') :
 DoI S L B T vw vh ms hs x p0 p1 fd fl W (fun j=>decide (j=21) || ls j) (fun j=>if j=21 then .pointer (some ⟨w.heap.size,0,none⟩) else u j) (n+1) w':=by
 obtain ⟨Lx,ms',hs',h1,h2,h3,h4,h5,h6,h7,h8⟩:=h;refine ⟨w.heap.size::Lx,ms',hs',fun c hc=>by simp [h1 c hc],hS _ _ _ h1 h2,fun e=>?_,fun e=>?_,fun e=>?_,fun _=>⟨w.heap.size,rfl,by simp,h8,hr⟩,fun e _=>?_,Nat.le_trans h8 hb.size⟩
 ·obtain ⟨g1,g2,g3,g4,g5,g6⟩:=h3 e;exact ⟨g1,g2,g3.more hb (Nat.le_refl _),g4.below intR_fits hb,g5.below intR_fits hb,g6.trans (hb.mono h8)⟩
 ·obtain ⟨cod,dv,fdv,dl,g1,g17,g2,gl,g3,g4⟩:=h4 e;exact ⟨cod,dv,fdv,dl,g1,g17,g2.below intR_fits hb,gl,g3.more hb (Nat.le_refl _),g4⟩
 ·obtain ⟨q,g1,g2,g3,g4,g5⟩:=h5 e;exact ⟨q,g1,by simp [g2],g3,g4.below hb,fun e'=>by
   have e'':ls 22=true:=e';rw [l22] at e'';cases e''⟩
 ·obtain ⟨q,g1,g2,g3,g4,-⟩:=h5 e;intro e2;have e3:u 20=Value.pointer (some ⟨w.heap.size,0,none⟩):=e2;rw [g1] at e3;simp at e3;have:=g4.1;omega
theorem DoI.call (h:DoI S L B T vw vh ms hs x p0 p1 fd fl W ls u n w) (l16:ls 16=false) (l17:ls 17=false) (l19:ls 19=false) (l22:ls 22=false) {ms2 hs2:List Int} {cod:Int} {dv:Value} {fdv fq:List Nat} {dl:List Int} (hS:∀ Lx,(∀ c,c∈L->c∈Lx)->S Lx ms hs w->S Lx ms2 hs2 w') (hc:Chg fq w w') (hq:∀ c,c∈fq->c<W.heap.size) (hg:SlR 1 intR w' dl dv fdv) (hgl:dl.length<=4) (hz:∀ Lx,(∀ c,c∈L->c∈Lx)->S Lx ms hs w->Fz (B++Lx) T w' fdv) :
 DoI S L B T vw vh ms hs x p0 p1 fd fl W (fun j=>decide (j=16) || ls j) (fun j=>if j=16 then .tuple #[.agg #[vw,vh],.agg #[.int .i64 x.id,.int .i64 cod,dv]] else u j) (n+1) w':=by
 obtain ⟨Lx,ms',hs',h1,h2,h3,h4,h5,h6,h7,h8⟩:=h;obtain ⟨rfl,rfl,-⟩:=h3 l16;refine ⟨Lx,ms2,hs2,h1,hS _ h1 h2,fun e=>by simp at e,fun _=>⟨cod,dv,fdv,dl,rfl,fun e=>?_,hg,hgl,hz _ h1 h2,fun e=>?_⟩,fun e=>?_,fun e=>?_,h7,Nat.le_trans h8 hc.size⟩
 ·have e':ls 17=true:=e;rw [l17] at e';cases e'
 ·have e':ls 19=true:=e;rw [l19] at e';cases e'
 ·obtain ⟨q,g1,g2,g3,g4,g5⟩:=h5 e;exact ⟨q,g1,g2,g3,g4.chg hc (fun hm=>by have:=hq q hm;omega),fun e'=>by
   have e'':ls 22=true:=e';rw [l22] at e'';cases e''⟩
 ·obtain ⟨q,g1,g2,g3,g4⟩:=h6 e;exact ⟨q,g1,g2,g3,g4.chg hc (fun hm=>by have:=hq q hm;omega)⟩
theorem DoI.lay (h:DoI S L B T vw vh ms hs x p0 p1 fd fl W ls u n w) (l16:ls 16=true) (l20:ls 20=true) (l21:ls 21=true) (hS:∀ Lx ms hs q w',(∀ c,c∈L->c∈Lx)->q∈Lx->W.heap.size<=q->Chg [q] w w'->S Lx ms hs w->S Lx ms hs w') :
 ∃ q,u 20 = .pointer (some ⟨q,0,none⟩)∧RoomAt q 2 w∧∀ v,DoI S L B T vw vh ms hs x p0 p1 fd fl W (fun j=>decide (j=22) || ls j) (fun j=>if j=22 then v else u j) (n+1) ((w.setCell ⟨q,0,none⟩ vw).setCell ⟨q,1,none⟩ vh):=by
 obtain ⟨Lx,ms',hs',h1,h2,h3,h4,h5,h6,h7,h8⟩:=h;obtain ⟨q,e0,hq,hN,hr,-⟩:=h5 l20;have hc:Chg [q] w ((w.setCell ⟨q,0,none⟩ vw).setCell ⟨q,1,none⟩ vh):=(store_chg _).trans' (store_chg _);refine ⟨q,e0,hr,fun v=>⟨Lx,ms',hs',h1,hS _ _ _ q _ h1 hq hN hc h2,fun e=>?_,fun _=>?_,fun _=>⟨q,e0,hq,hN,(hr.set (by omega)).set (by omega),fun _=>?_⟩,fun _=>?_,fun _ _=>h7 l20 l21,Nat.le_trans h8 hc.size⟩⟩
 ·have e':ls 16=false:=e;rw [l16] at e';cases e'
 ·obtain ⟨cod,dv,fdv,dl,g1,g17,g2,gl,g3,g4⟩:=h4 l16;refine ⟨cod,dv,fdv,dl,g1,g17,g2.chg intR_fits hc (fun c hm e=>?_),gl,g3.step (Step.of_chg hc),g4⟩;have:=(g3 c hm).2.1;simp at e;subst e;exact this (by simp [hq])
 ·obtain ⟨u0,p0⟩:=hr.2.1 0 (by omega);obtain ⟨u1,p1⟩:=hr.2.1 1 (by omega);exact FCs.two p0 p1
 ·obtain ⟨q',g1,g2,g3,g4⟩:=h6 l21;refine ⟨q',g1,g2,g3,g4.chg hc (fun hm=>?_)⟩;simp at hm;subst hm;exact h7 l20 l21 (e0.trans g1.symm)
structure RspAt (q:Nat) (id cod:Int) (dv:Value) (dl:List Int) (fdv L1:List Nat) (T:Tab) (w:World):Prop where
 c0:w.cell? ⟨q,0,none⟩=some (.int .i64 id)
 c1:w.cell? ⟨q,1,none⟩=some (.int .i64 cod)
 c2:w.cell? ⟨q,2,none⟩=some dv
 g:SlR 1 intR w dl dv fdv
 z:Fz L1 T w fdv
theorem RspAt.step {q:Nat} {id cod:Int} {dv:Value} {dl:List Int} {fdv L1:List Nat} {T':Tab} (h:RspAt q id cod dv dl fdv L1 T w) (s:Step [] T w T' w') (ht:T q=none):RspAt q id cod dv dl fdv L1 T' w' :=
 ⟨s.cell h.c0 (by simp) ht,s.cell h.c1 (by simp) ht,s.cell h.c2 (by simp) ht,h.g.same intR_fits (h.z.same s (by simp)) s.size,h.z.step s⟩
theorem RspAt.chg {q:Nat} {id cod:Int} {dv:Value} {dl:List Int} {fdv L1 fq:List Nat} (h:RspAt q id cod dv dl fdv L1 T w) (hc:Chg fq w w') (hq:∀ c,c∈fq->c∈L1) (hn:q∉fq):RspAt q id cod dv dl fdv L1 T w' :=
 ⟨keep_cell_chg hc h.c0 hn,keep_cell_chg hc h.c1 hn,keep_cell_chg hc h.c2 hn,h.g.same intR_fits (h.z.same (Step.of_chg (T:=T) hc) hq) hc.size,h.z.step (Step.of_chg hc)⟩
end Go.Proofs.Ytmcjklicepaiaaa
