/-
 Texts of this claim laid together: Region5.
-/
import Derived.Test.YtmcjklicepaiaaaPk02
set_option linter.unusedVariables false
set_option linter.unusedSimpArgs false
namespace Go.Proofs.Ytmcjklicepaiaaa
open Go
variable {P:Program} {ops:Array Oper} {Q:Exit->Act->World->Prop}
def Skips (ops:Array Oper) (R:Nat->Value->World->Prop) (I:Nat->World->Prop) (i:Nat):Prop :=
 ∃ o g b,ops[i]?=some o∧o.guard=some (g,b)∧(∀ v w,R g v w->v = .bool (!b))∧(∀ w,R i undef w)∧∀ m w,I m w->I (m+1) w
theorem region_skip_gen {Goal : Prop} {a0 : Act} {wI : World} (hX : ∀ J : Array Bool -> Act -> World -> Prop,
      (∀ (i : Nat) (o : Oper), ops[i]? = some o -> ∀ e : Edge, e ∈ o.after -> Region.binds .any e = true -> e.on < i) ->
      (∀ (listed:Array Bool) (a:Act) (w:World) (i:Nat) (o:Oper),ops[i]?=some o->listed.size=ops.size->listed.getD i true=false->(∀ e:Edge,e∈o.after->Region.binds .any e=true->listed.getD e.on false=true)->J listed a w ->
       wpOp P ops Q i (fun a' w'=>J (listed.setIfInBounds i true) a' w') a w) ->
      (∀ (listed:Array Bool) (a:Act) (w:World),listed.size=ops.size->(∀ i,i<ops.size->listed.getD i false=true)->J listed a w->Q .normal a w)->J (Array.replicate ops.size false) a0 wI->Goal)
 (T:Nat->List Nat) (R:Nat->Value->World->Prop) (I:Nat->World->Prop) (size k:Nat) (hk:k<=ops.size)
 (hsize:a0.tmps.size=size) (hok:okRegionG ops T size=true) (htl:okTail ops T k=true) (h0:I 0 wI) (hop:∀ i,i<k->Skips ops R I i∨Owes P ops Q T R I a0 i∧∀ o g b,ops[i]?=some o->o.guard=some (g,b)->∀ v w,R g v w->v = .bool b)
 (hend:∀ (u:Nat->Value) (w':World),I k w'->(∀ i,i<k->R i (u i) w')->wpOps P ops Q (List.range' k (ops.size - k)) (fill ops u (fun _=>true) a0 k) w'):Goal:=by
 have at':=fun {i o} (ho:ops[i]?=some o)=>okRegionG_at hok ho;have hdst:∀ i d,dstOf ops i=some d->d<a0.tmps.size:=by
  intro i d hd;cases ho:ops[i]? with
  | none=>simp [dstOf,ho] at hd
  | some o=>rw [hsize];exact (at' ho).dst d (by simpa [dstOf,ho] using hd)
 have full:∀ (listed:Array Bool) (m:Nat),listed.size=ops.size->m+listed.toList.count false=ops.size->(∀ i,k<=i->listed.getD i false=false)->(∀ i,i<k->listed.getD i false=true)->m=k:=by
  intro listed m hsz hcnt hno hyes;have e:listed.toList=List.replicate k true++List.replicate (ops.size - k) false:=by
   refine List.ext_getElem (by simp;omega) fun i h1 h2=>?_;have hi:i<listed.size:=by simpa using h1
   by_cases hik:i<k
   ·have:=hyes i hik;rw [Array.getD,dif_pos hi] at this;rw [List.getElem_append_left (by simpa using hik)];simpa using this
   ·have:=hno i (by omega);rw [Array.getD,dif_pos hi] at this;rw [List.getElem_append_right (by simp;omega)];simpa using this
  rw [e,List.count_append,List.count_replicate,List.count_replicate] at hcnt;simp at hcnt;omega
 refine hX (fun listed a w => (∃ (u : Nat -> Value) (m : Nat), (∀ i, k <= i -> listed.getD i false = false) ∧ m + listed.toList.count false = ops.size ∧ a = fill ops u (fun i => listed.getD i false) a0 ops.size ∧
     (∀ i, i < ops.size -> listed.getD i false = true -> ∀ j, j ∈ T i -> listed.getD j false = true) ∧ (∀ i, i < ops.size -> listed.getD i false = true -> R i (u i) w) ∧ I m w) ∨
     ∃ q,k<=q∧q<=ops.size∧(∀ i,i<ops.size->listed.getD i false=decide (i<q))∧wpOps P ops Q (List.range' q (ops.size - q)) a w)
  (fun i o ho=>(at' ho).back) ?_ ?_ ?_
 ·intro listed a w i o ho hsz hli hdeps hJ;have hi:i<ops.size:=(Array.getElem?_eq_some_iff.1 ho).1;have hil:i<listed.size:=by omega
  have A:=at' ho;have hset:∀ j,(listed.setIfInBounds i true).getD j false=(listed.getD j false || (j == i)):=by
   intro j;by_cases hji:j=i
   ·subst hji;simp [hil]
   ·simp [Array.getD_eq_getD_getElem?,Array.getElem?_setIfInBounds_ne (Ne.symm hji),hji]
  have hlf:listed.getD i false=false:=by
   rw [Array.getD,dif_pos hil] at hli ⊢;exact hli
  have goOn:∀ q,q=i->k<=q->(∀ j,j<ops.size->listed.getD j false=decide (j<q))->wpOps P ops Q (List.range' q (ops.size - q)) a w->wpOp P ops Q i (fun a' w'=>(∃ (u:Nat->Value) (m:Nat),(∀ i_1,k<=i_1->(listed.setIfInBounds i true).getD i_1 false=false)∧m+(listed.setIfInBounds i true).toList.count false=ops.size∧a'=fill ops u (fun j=>(listed.setIfInBounds i true).getD j false) a0 ops.size ∧
   (∀ i_1,i_1<ops.size->(listed.setIfInBounds i true).getD i_1 false=true->∀ j,j∈T i_1->(listed.setIfInBounds i true).getD j false=true)∧(∀ i_1,i_1<ops.size->(listed.setIfInBounds i true).getD i_1 false=true->R i_1 (u i_1) w')∧I m w') ∨
   ∃ q,k<=q∧q<=ops.size∧(∀ j,j<ops.size->(listed.setIfInBounds i true).getD j false=decide (j<q))∧wpOps P ops Q (List.range' q (ops.size - q)) a' w') a w:=by
   intro q hq hkq hl hw;subst hq;rw [show ops.size - q=(ops.size - (q+1))+1 by omega,List.range'_succ,wpOps_cons] at hw;refine wpOp_mono (fun a' w' h=>.inr ⟨q+1,by omega,by omega,fun j hj=>?_,h⟩) hw;rw [hset,hl j hj,Bool.eq_iff_iff];simp;omega
  have hdown':∀ j,j<i->k<=i->(∀ e:Edge,e∈o.after->Region.binds .any e=true->∀ q,q∈T e.on->listed.getD q false=true)->listed.getD j false=true:=by
   intro j hj hki hd;obtain ⟨_,e,he,hb,h⟩:=A.anc j (okTail_at htl hi hki hj);rcases h with h|h
   ·rw [<- h];exact hdeps e he hb
   ·exact hd e he hb j h
  rcases hJ with ⟨u,m,hno,hcnt,ha,hdown,hR,hI⟩|⟨q,hkq,hqn,hl,hw⟩
  rotate_left
  ·-- behind the open part
   have hiq:q<=i:=by
    rcases Nat.lt_or_ge i q with h|h
    ·have:=hl i hi;rw [hlf] at this;simp at this;omega
    ·exact h
   have:∀ j,j<i->listed.getD j false=true:=fun j hj=>hdown' j hj (by omega) fun e he hb p hp=>by
    have h1:=A.back e he hb;have h2:=hdeps e he hb;rw [hl e.on (by omega)] at h2;have h3:e.on<q:=of_decide_eq_true h2;obtain ⟨oo,hoo⟩:∃ oo,ops[e.on]?=some oo:=⟨_,Array.getElem?_eq_getElem (by omega)⟩;have h4:=((at' hoo).anc p hp).1;rw [hl p (by omega)];exact decide_eq_true (by omega)
   have hqi:q=i:=by
    rcases Nat.lt_or_ge q i with h|h
    ·have h1:=this q h;rw [hl q (by omega)] at h1;have:=of_decide_eq_true h1;omega
    ·omega
   exact goOn q hqi hkq hl hw
  by_cases hik:k<=i
  ·-- the first one behind the open part
   have hall:∀ j,j<i->listed.getD j false=true:=fun j hj=>hdown' j hj hik fun e he hb p hp=>hdown e.on (by have:=A.back e he hb;omega) (hdeps e he hb) p hp;have hki:k=i:=by
    rcases Nat.lt_or_ge k i with h|h
    ·have h1:=hall k h;rw [hno k (Nat.le_refl _)] at h1;simp at h1
    ·omega
   have hyes:∀ j,j<k->listed.getD j false=true:=fun j hj=>hall j (by omega);obtain rfl:=full listed m hsz hcnt hno hyes;have hw:=hend u w hI (fun j hj=>hR j (by omega) (hyes j hj));rw [<- fill_upto u (fun i=>listed.getD i false) a0 m (fun j hj=>hno j hj) hyes ops.size hk,<- ha] at hw;exact goOn m hki (Nat.le_refl _) (fun j hj=>by
    by_cases h1:j<m
    ·rw [hyes j h1];exact (decide_eq_true h1).symm
    ·rw [hno j (by omega)];exact (decide_eq_false h1).symm) hw
  have hlf':listed[i]=false:=by rw [Array.getD,dif_pos hil] at hlf;exact hlf
  have hT:∀ j,j∈T i->listed.getD j false=true:=by
   intro j hj;obtain ⟨_,e,he,hb,h⟩:=A.anc j hj;have h1:=hdeps e he hb;rcases h with h|h
   ·rw [<- h];exact h1
   ·exact hdown e.on (by have:=A.back e he hb;omega) h1 j h
  have hwr:∀ t,t∈tmpsOf o++o.dst.toList->∀ j,j<ops.size->dstOf ops j=some t->i<j->listed.getD j false=false:=by
   intro t ht j hj hdj hij;rcases Bool.eq_false_or_eq_true (listed.getD j false) with h|h
   ·have:=hdown j hj h i (((A.order t ht j hj (by omega) hdj).2 hij));rw [hlf] at this;simp at this
   ·exact h
  have hev:∀ x,x∈o.op.operands->a.eval x=rho ops a0 u i x:=by
   intro x hx;subst ha;cases x with
   | tmp t =>
    have ht:t∈tmpsOf o++o.dst.toList:=List.mem_append_left _ (List.mem_filterMap.2 ⟨.tmp t,by simpa using hx,rfl⟩);rw [fill_eval u _ a0 hdst];have e:lastW ops (fun i=>listed.getD i false) t ops.size=lastW ops (fun _=>true) t i:=by
     rw [lastW_stop _ t i ops.size (by omega)]
     ·exact lastW_congr _ _ t i fun j hj hdj=>hT j ((A.order t ht j (by omega) (by omega) hdj).1 hj)
     ·intro j h1 h2 hdj;by_cases hji:j=i
      ·subst hji;exact hlf
      ·exact hwr t ht j h2 hdj (by omega)
    rw [e];rfl
   | const v=>rfl
   | global g=>rfl
   | func f=>rfl
  have hmem0:false∈listed.toList:=by rw [<- hlf'];exact Array.getElem_mem_toList _
  have hpos:=List.count_pos_iff.2 hmem0;have hput:∀ v w',R i v w'->I (m+1) w'->(∀ j x,R j x w->R j x w')->(fun a' w'=>(∃ (u:Nat->Value) (m:Nat),(∀ i_1,k<=i_1->(listed.setIfInBounds i true).getD i_1 false=false)∧m+(listed.setIfInBounds i true).toList.count false=ops.size∧a'=fill ops u (fun j=>(listed.setIfInBounds i true).getD j false) a0 ops.size ∧
   (∀ i_1,i_1<ops.size->(listed.setIfInBounds i true).getD i_1 false=true->∀ j,j∈T i_1->(listed.setIfInBounds i true).getD j false=true)∧(∀ i_1,i_1<ops.size->(listed.setIfInBounds i true).getD i_1 false=true->R i_1 (u i_1) w')∧I m w') ∨
   ∃ q,k<=q∧q<=ops.size∧(∀ j,j<ops.size->(listed.setIfInBounds i true).getD j false=decide (j<q))∧wpOps P ops Q (List.range' q (ops.size - q)) a' w') (a.put o.dst v) w':=by
   intro v w' hRi hI' hst;refine .inl ⟨fun j=>if j=i then v else u j,m+1,fun j hj=>by rw [hset,hno j hj];simp;omega,?_,?_,?_,?_,hI'⟩
   ·rw [Array.toList_setIfInBounds,List.count_set (by simpa using hil)];have hmem:false∈listed.toList:=by rw [<- hlf'];exact Array.getElem_mem_toList _
    have hp:=List.count_pos_iff.2 hmem;rw [if_pos (by simp [hlf']),if_neg (by simp)];omega
   ·have hd:dstOf ops i=o.dst:=by simp [dstOf,ho]
    rw [show (fun i_1=>(listed.setIfInBounds i true).getD i_1 false)=(fun j=>(listed.getD j false || (j == i))) from funext hset];rw [fill_put u (fun i=>listed.getD i false) a0 i v hlf ops.size hi,hd,ha];intro j d hij hLj hdi hdj;have hjs:j<ops.size:=by
     rcases Nat.lt_or_ge j ops.size with h|h
     ·exact h
     ·rw [Array.getD,dif_neg (by omega)] at hLj;simp at hLj
    rw [hd] at hdi;have:=hwr d (List.mem_append_right _ (by simp [hdi])) j hjs hdj hij;rw [this] at hLj;simp at hLj
   ·intro k hk hlk j hj;rw [hset] at hlk ⊢;rcases Bool.or_eq_true _ _ ▸ hlk with h|h
    ·rw [hdown k hk h j hj];rfl
    ·obtain rfl:k=i:=by simpa using h
     rw [hT j hj];rfl
   ·intro k hk hlk;rw [hset] at hlk;by_cases hki:k=i
    ·subst hki;simpa using hRi
    ·simp only [hki,if_false];refine hst k _ (hR k hk ?_);simpa [hki] using hlk
  have hyv:∀ g bb d,g∈T i->dstOf ops g=some d->(∀ j,j<ops.size->j≠g->dstOf ops j≠some d)->u g = .bool bb->yielded ops a.tmps g=some bb:=by
   intro g bb d hgT hgd1 hon hv;have hgl:=hT g hgT;have hgi:g<i:=(A.anc g hgT).1;have he:=fill_eval (ops:=ops) u (fun i=>listed.getD i false) a0 hdst d ops.size;rw [lastW_only hgd1 hgl ops.size (by omega) hon,<- ha] at he;simp only [hv] at he;unfold yielded;unfold dstOf at hgd1;cases hog:ops[g]? with
   | none=>rw [hog] at hgd1;simp at hgd1
   | some og =>
    rw [hog] at hgd1;simp only [Option.bind_some] at hgd1;simp only [Act.eval,Array.getD_eq_getD_getElem?] at he;simp [hgd1];cases hx:a.tmps[d]? with
    | none=>rw [hx] at he;simp [undef] at he
    | some y=>rw [hx] at he;simp at he;subst he;rfl
  unfold wpOp;rw [ho];rcases hop i (by omega) with ⟨o',g,b,ho',hg,hgv,hRu,hIm⟩|⟨hopi,hgd⟩
  ·obtain rfl:o'=o:=Option.some.inj (ho'.symm.trans ho);have hwant:Region.wanted o' (yielded ops a.tmps)=false:=by
    rcases A.guard with hg'|⟨g',b',d,hg',hgT,hgd1,hds,hon⟩
    ·rw [hg'] at hg;simp at hg
    ·rw [hg'] at hg;simp only [Option.some.injEq,Prod.mk.injEq] at hg;obtain ⟨rfl,rfl⟩:=hg;have hgl:=hT g' hgT;have hgi:g'<i:=(A.anc g' hgT).1;have hy:=hyv g' (!b') d hgT hgd1 hon (hgv _ _ (hR g' (by omega) hgl));simp [Region.wanted,hg',hy]
   simp only [hwant,Bool.false_eq_true,if_false];exact hput undef w (hRu w) (hIm m w hI) (fun _ _ h=>h)
  ·have hw:=hopi o ho u m w (by omega) hI (fun j hj=>hR j (by have:=(A.anc j hj).1;omega) (hT j hj)) a hev;have hwant:Region.wanted o (yielded ops a.tmps)=true:=by
    rcases A.guard with hg|⟨g,b,d,hg,hgT,hgd1,hds,hon⟩
    ·simp [Region.wanted,hg]
    ·have hgl:=hT g hgT;have hgi:g<i:=(A.anc g hgT).1;have hy:=hyv g b d hgT hgd1 hon (hgd o g b ho hg _ _ (hR g (by omega) hgl));simp [Region.wanted,hg,hy]
   simp only [hwant,if_true];refine .inl (Oper.wp_mono (fun a' w' h=>?_) hw);obtain ⟨v,rfl,hRi,hI',hst⟩:=h;exact hput v w' hRi hI' hst
 ·intro listed a w hsz hall hJ;rcases hJ with ⟨u,m,hno,hcnt,ha,hdown,hR,hI⟩|⟨q,hkq,hqn,hl,hw⟩
  ·have hkn:k=ops.size:=by
    rcases Nat.lt_or_ge k ops.size with h|h
    ·have h1:=hall k h;rw [hno k (Nat.le_refl _)] at h1;simp at h1
    ·omega
   have hyes:∀ j,j<k->listed.getD j false=true:=fun j hj=>hall j (by omega);obtain rfl:=full listed m hsz hcnt hno hyes;have hw:=hend u w hI (fun j hj=>hR j (by omega) (hyes j hj));rw [<- fill_upto u (fun i=>listed.getD i false) a0 m (fun j hj=>hno j hj) hyes ops.size hk,<- ha,show ops.size - m=0 by omega] at hw;exact hw
  ·have hqn':q=ops.size:=by
    rcases Nat.lt_or_ge q ops.size with h|h
    ·have h1:=hall q h;rw [hl q h] at h1;have:=of_decide_eq_true h1;omega
    ·omega
   rw [hqn',Nat.sub_self] at hw;exact hw
 ·have hrep:∀ i,(Array.replicate ops.size false).getD i false=false:=by
   intro i;by_cases h:i<ops.size<;>simp [Array.getD,h]
  refine .inl ⟨fun _=>undef,0,fun i _=>hrep i,by simp,?_,fun i _ h=>by rw [hrep] at h;simp at h,fun i _ h=>by rw [hrep] at h;simp at h,h0⟩;have:∀ n,fill ops (fun _=>undef) (fun i=>(Array.replicate ops.size false).getD i false) a0 n=a0:=by
   intro n
   induction n with
   | zero=>rfl
   | succ n ih=>unfold fill;rw [hrep,ih];simp
  exact (this _).symm
def okSkips (ops:Array Oper) (k:Nat) (S:List Nat) (G:List (Nat × Bool)):Bool:=(List.range k).all fun i=>match ops[i]? with
 | none=>true
 | some o=>match o.guard with
  | none => !S.contains i
  | some p=>if S.contains i then G.contains (p.1,!p.2) else G.contains p
theorem okSkips_at {S:List Nat} {G:List (Nat × Bool)} {k:Nat} (h:okSkips ops k S G=true) {i:Nat} {o:Oper} (hi:i<k) (ho:ops[i]?=some o) :
 (i∈S->∃ p,o.guard=some p∧(p.1,!p.2)∈G)∧(i∉S->∀ p,o.guard=some p->p∈G):=by
 unfold okSkips at h;rw [List.all_eq_true] at h;have h1:=h i (List.mem_range.2 hi);rw [ho] at h1;cases hg:o.guard with
 | none =>
  simp only [hg] at h1;refine ⟨fun hm=>?_,fun _ p hp=>by simp at hp⟩;simp [hm] at h1
 | some p =>
  simp only [hg] at h1;refine ⟨fun hm=>⟨p,rfl,?_⟩,fun hm q hq=>?_⟩
  ·rw [if_pos (by simpa using hm)] at h1;simpa using h1
  ·obtain rfl:=Option.some.inj hq;rw [if_neg (by simpa using hm)] at h1;simpa using h1
theorem wp_region_skip {id:Nat} {L:List Value} {df:List Deferred} {w:World} (hm:P.follows .mixedOrders=true) (T:Nat->List Nat) (R:Nat->Value->World->Prop) (I:Nat->World->Prop) (size n k:Nat) (ds:List (Option Tmp)) (tl:List Oper)
 (hsize:L.length=size) (hn:ops.size=n) (hk:k<=n) (hd:(ops.toList.take k).map (·.dst)=ds) (htl:ops.toList.drop k=tl) (hok:okRegionG ops T size=true) (hot:okTail ops T k=true) (S:List Nat) (G:List (Nat × Bool)) (hG:okSkips ops k S G=true) (hGR:∀ g b,(g,b)∈G->∀ v w,R g v w->v = .bool b) (hS:∀ i,i∈S->∀ w,R i undef w) (hIm:∀ m w,I m w->I (m+1) w) (h0:I 0 w.drew) (hop:∀ i,i<k->i∈S∨Owes P ops Q T R I ⟨L.toArray,df⟩ i)
 (hend:∀ (u:Nat->Value) (w':World),I k w'->(∀ i,i<k->R i (u i) w')->wpList P ops Q tl ⟨(setAll ds u 0 L).toArray,df⟩ w') :
 (Code.region id ops true).wp P Q ⟨L.toArray,df⟩ w:=by
 subst hn;refine region_skip_gen (wI:=w.drew) (fun J h1 h2 h3 h4=>wp_region_any hm (wpAny_inv J h1 h2 h3 ops.size _ _ _ (by simp) (by simp) h4)) T R I size k hk (by simpa using hsize) hok hot h0 (fun i hi=>?_) fun u w' hI hR=>?_
 ·obtain ⟨o,ho⟩:∃ o,ops[i]?=some o:=⟨_,Array.getElem?_eq_getElem (by omega)⟩;obtain ⟨h1,h2⟩:=okSkips_at hG hi ho;by_cases hm:i∈S
  ·obtain ⟨p,hp,hpG⟩:=h1 hm;exact .inl ⟨o,p.1,p.2,ho,hp,hGR _ _ hpG,hS i hm,hIm⟩
  ·refine .inr ⟨(hop i hi).resolve_left hm,fun o' g b ho' hg=>?_⟩;obtain rfl:o'=o:=Option.some.inj (ho'.symm.trans ho);exact hGR _ _ (h2 hm _ hg)
 ·rw [fill_setAll_take hd u hk];have h:=hend u w' hI hR;have e:=wpOps_eq_wpList (P:=P) (ops:=ops) (Q:=Q) tl k (fun j=>by rw [<- htl];simp);have hl:tl.length=ops.size - k:=by rw [<- htl];simp
  rw [hl] at e;rw [e];exact h
end Go.Proofs.Ytmcjklicepaiaaa
