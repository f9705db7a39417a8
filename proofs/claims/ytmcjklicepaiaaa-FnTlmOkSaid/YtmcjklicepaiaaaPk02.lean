/-
 Texts of this claim laid together: Region3 Frm.
-/
import Derived.Test.YtmcjklicepaiaaaPk01
set_option linter.unusedVariables false
set_option linter.unusedSimpArgs false
namespace Go.Proofs.Ytmcjklicepaiaaa
open Go
variable {P:Program} {ops:Array Oper} {Q:Exit->Act->World->Prop}
def okTail (ops:Array Oper) (T:Nat->List Nat) (k:Nat):Bool:=(List.range ops.size).all fun i=>decide (i<k) || (List.range i).all fun j=>(T i).contains j
theorem okTail_at {T:Nat->List Nat} {k:Nat} (h:okTail ops T k=true) {i j:Nat} (hi:i<ops.size) (hk:k<=i) (hj:j<i):j∈T i:=by
 unfold okTail at h;rw [List.all_eq_true] at h;have h1:=h i (List.mem_range.2 hi);rw [Bool.or_eq_true] at h1;rcases h1 with h1|h1
 ·have:=of_decide_eq_true h1;omega
 ·rw [List.all_eq_true] at h1;simpa using h1 j (List.mem_range.2 hj)
theorem fill_upto (u:Nat->Value) (L:Nat->Bool) (a0:Act) (k:Nat) (hL:∀ j,k<=j->L j=false) (hT:∀ j,j<k->L j=true):∀ n,k<=n->fill ops u L a0 n=fill ops u (fun _=>true) a0 k:=by
 have h0:∀ n,n<=k->fill ops u L a0 n=fill ops u (fun _=>true) a0 n:=by
  intro n
  induction n with
  | zero=>intro _;rfl
  | succ n ih=>intro hn;unfold fill;rw [ih (by omega),hT n (by omega)]
 intro n
 induction n with
 | zero => intro hk; obtain rfl : k = 0 := by omega
           rfl
 | succ n ih =>
  intro hk;by_cases e:k=n+1
  ·subst e;exact h0 _ (Nat.le_refl _)
  ·have:fill ops u L a0 (n+1)=fill ops u L a0 n:=by
    conv=>lhs;unfold fill
    rw [hL n (by omega)];simp
   rw [this];exact ih (by omega)
def okRegionG (ops:Array Oper) (T:Nat->List Nat) (size:Nat):Bool :=
 (List.range ops.size).all fun i=>match ops[i]? with
  | none=>true
  | some o => (match o.guard with
      | none => true
      | some (g, _) => (T i).contains g && (match dstOf ops g with
          | none => false
          | some d=>decide (d<size) && (List.range ops.size).all fun j=>j == g || dstOf ops j != some d)) && (match o.op with | .select ..=>false|_=>true) && (o.after.all fun e => !Region.binds .any e || decide (e.on<i)) &&
   ((T i).all fun j=>decide (j<i) && o.after.any fun e=>Region.binds .any e && (e.on == j || (T e.on).contains j)) &&
   (match o.dst with|some d=>decide (d<size)|none=>true) &&
   ((tmpsOf o++o.dst.toList).all fun t=>(List.range ops.size).all fun j=>j == i || dstOf ops j != some t || (if j<i then (T i).contains j else (T j).contains i))
structure OkAtG (ops:Array Oper) (T:Nat->List Nat) (size i:Nat) (o:Oper):Prop where
 guard:o.guard=none∨∃ g b d,o.guard=some (g,b)∧g∈T i∧dstOf ops g=some d∧d<size∧∀ j,j<ops.size->j≠g->dstOf ops j≠some d
 sel:∀ cs b,o.op ≠ .select cs b
 back:∀ e:Edge,e∈o.after->Region.binds .any e=true->e.on<i
 anc:∀ j,j∈T i->j<i∧∃ e:Edge,e∈o.after∧Region.binds .any e=true∧(e.on=j∨j∈T e.on)
 dst:∀ d,o.dst=some d->d<size
 order:∀ t,t∈tmpsOf o++o.dst.toList->∀ j,j<ops.size->j≠i->dstOf ops j=some t->(j<i->j∈T i)∧(i<j->i∈T j)
theorem okRegionG_at {T:Nat->List Nat} {size:Nat} (h:okRegionG ops T size=true) {i:Nat} {o:Oper} (ho:ops[i]?=some o):OkAtG ops T size i o:=by
 unfold okRegionG at h;rw [List.all_eq_true] at h;have hi:i<ops.size:=(Array.getElem?_eq_some_iff.1 ho).1;have h1:=h i (List.mem_range.2 hi);rw [ho] at h1;simp only [Bool.and_eq_true] at h1;obtain ⟨⟨⟨⟨⟨hg,hs⟩,hb⟩,ha⟩,hd⟩,hor⟩:=h1;refine ⟨?_,fun cs b e=>by rw [e] at hs;simp at hs,fun e he hbd=>?_,fun j hj=>?_,fun d e=>by rw [e] at hd;simpa using hd,fun t ht j hj hne hdj=>?_⟩
 ·cases hgd:o.guard with
  | none=>exact .inl rfl
  | some p =>
   obtain ⟨g,b⟩:=p;rw [hgd] at hg;simp only [Bool.and_eq_true] at hg;obtain ⟨hg1,hg2⟩:=hg;cases hdg:dstOf ops g with
   | none=>rw [hdg] at hg2;simp at hg2
   | some d =>
    rw [hdg] at hg2;simp only [Bool.and_eq_true] at hg2;refine .inr ⟨g,b,d,rfl,by simpa using hg1,hdg,of_decide_eq_true hg2.1,fun j hj hne e=>?_⟩;have:=hg2.2;rw [List.all_eq_true] at this;have:=this j (List.mem_range.2 hj);rw [e] at this;simp at this;exact hne this
 ·rw [Array.all_eq_true_iff_forall_mem] at hb;simpa [hbd] using hb e he
 ·rw [List.all_eq_true] at ha;have:=ha j hj;rw [Bool.and_eq_true,Array.any_eq_true] at this;obtain ⟨h1,q,hq,h2⟩:=this;simp only [Bool.and_eq_true,Bool.or_eq_true,beq_iff_eq,List.contains_iff_mem] at h2;exact ⟨of_decide_eq_true h1,o.after[q],Array.getElem_mem _,h2.1,h2.2⟩
 ·rw [List.all_eq_true] at hor;have h2:=hor t ht;rw [List.all_eq_true] at h2;have h3:=h2 j (List.mem_range.2 hj);simp only [hdj,bne_self_eq_false,Bool.or_false,Bool.or_eq_true,beq_iff_eq] at h3;rcases h3 with h3|h3
  ·exact absurd h3 hne
  ·refine ⟨fun hlt=>?_,fun hlt=>?_⟩
   ·rw [if_pos hlt] at h3;simpa using h3
   ·rw [if_neg (by omega)] at h3;simpa using h3
theorem lastW_only {L:Nat->Bool} {t:Tmp} {g:Nat} (hg:dstOf ops g=some t) (hL:L g=true):∀ n,g<n->(∀ j,j<n->j≠g->dstOf ops j≠some t)->lastW ops L t n=some g:=by
 intro n
 induction n with
 | zero=>intro h;omega
 | succ n ih =>
  intro h ho;unfold lastW;by_cases e:n=g
  ·subst e;simp [hg,hL]
  ·have:(dstOf ops n == some t)=false:=by simpa using ho n (by omega) e
   simp only [this,Bool.and_false,Bool.false_eq_true,if_false];exact ih (by omega) fun j hj=>ho j (by omega)
theorem Owes.mkG {T:Nat->List Nat} {R:Nat->Value->World->Prop} {I:Nat->World->Prop} {a0:Act} {i:Nat} (o o':Oper) (ho:ops[i]?=some o) (ho':o'={ o with guard:=none }) (hs:∀ cs b,o.op ≠ .select cs b)
 (h:∀ (u:Nat->Value) (m:Nat) (w:World),m<ops.size->I m w->(∀ j,j∈T i->R j (u j) w)->∃ a1:Act,o'.op.operands.toList.map (rho ops a0 u i)=o'.op.operands.toList.map a1.eval∧(∀ d,o'.dst=some d->d<a1.tmps.size) ∧
  wpList P #[] (Via a1 o' (fun v w'=>R i v w'∧I (m+1) w'∧∀ j x,R j x w->R j x w')) [o'] a1 w):Owes P ops Q T R I a0 i:=by
 intro o2 ho2 u m w hm hI hR a hev;obtain rfl:o2=o:=Option.some.inj (ho2.symm.trans ho);subst ho';obtain ⟨a1,h1,h2,h3⟩:=h u m w hm hI hR;have h1':∀ x,x∈o2.op.operands->rho ops a0 u i x=a1.eval x:=fun x hx=>List.map_inj_left.1 h1 x (by simpa using hx);exact wp_via (o:={ o2 with guard:=none }) rfl hs (fun x hx=>(hev x hx).trans (h1' x hx)) h2 h3
theorem region_tail_gen {Goal : Prop} {a0 : Act} {wI : World} (hX : ∀ J : Array Bool -> Act -> World -> Prop,
      (∀ (i : Nat) (o : Oper), ops[i]? = some o -> ∀ e : Edge, e ∈ o.after -> Region.binds .any e = true -> e.on < i) ->
      (∀ (listed:Array Bool) (a:Act) (w:World) (i:Nat) (o:Oper),ops[i]?=some o->listed.size=ops.size->listed.getD i true=false->(∀ e:Edge,e∈o.after->Region.binds .any e=true->listed.getD e.on false=true)->J listed a w ->
       wpOp P ops Q i (fun a' w'=>J (listed.setIfInBounds i true) a' w') a w) ->
      (∀ (listed:Array Bool) (a:Act) (w:World),listed.size=ops.size->(∀ i,i<ops.size->listed.getD i false=true)->J listed a w->Q .normal a w)->J (Array.replicate ops.size false) a0 wI->Goal)
 (T:Nat->List Nat) (R:Nat->Value->World->Prop) (I:Nat->World->Prop) (size k:Nat) (hk:k<=ops.size)
 (hsize:a0.tmps.size=size) (hok:okRegionG ops T size=true) (htl:okTail ops T k=true) (hgd:∀ i o g b,i<k->ops[i]?=some o->o.guard=some (g,b)->∀ v w,R g v w->v = .bool b) (h0:I 0 wI) (hop:∀ i,i<k->Owes P ops Q T R I a0 i)
 (hend:∀ (u:Nat->Value) (w':World),I k w'->(∀ i,i<k->R i (u i) w')->wpOps P ops Q (List.range' k (ops.size - k)) (fill ops u (fun _=>true) a0 k) w'):Goal:=by
 have at':=fun {i o} (ho:ops[i]?=some o)=>okRegionG_at hok ho;have hdst:∀ i d,dstOf ops i=some d->d<a0.tmps.size:=by
  intro i d hd;cases ho:ops[i]? with
  | none=>simp [dstOf,ho] at hd
  | some o=>rw [hsize];exact (at' ho).dst d (by simpa [dstOf,ho] using hd)
 have full:∀ (listed:Array Bool) (m:Nat),listed.size=ops.size->m+listed.toList.count false=ops.size->(∀ i,k<=i->listed.getD i false=false)->(∀ i,i<k->listed.getD i false=true)->m=k:=by
  intro listed m hsz hcnt hno hyes;have e:listed.toList=List.replicate k true++List.replicate (ops.size - k) false:=by
   refine List.ext_getElem (by simp;omega) fun i h1 h2=>?_;have hi:i<listed.size:=by simpa using h1
   by_cases hik:i<k
   ·have:=hyes i hik;rw [Array.getD,dif_pos hi] at this;rw [List.getElem_append_left (by simpa using hik)];simpa using this
   ·have:=hno i (by omega);rw [Array.getD,dif_pos hi] at this;rw [List.getElem_append_right (by simp;omega)];simpa using this
  rw [e,List.count_append,List.count_replicate,List.count_replicate] at hcnt;simp at hcnt;omega
 refine hX (fun listed a w => (∃ (u : Nat -> Value) (m : Nat), (∀ i, k <= i -> listed.getD i false = false) ∧ m + listed.toList.count false = ops.size ∧ a = fill ops u (fun i => listed.getD i false) a0 ops.size ∧
     (∀ i, i < ops.size -> listed.getD i false = true -> ∀ j, j ∈ T i -> listed.getD j false = true) ∧ (∀ i, i < ops.size -> listed.getD i false = true -> R i (u i) w) ∧ I m w) ∨
     ∃ q,k<=q∧q<=ops.size∧(∀ i,i<ops.size->listed.getD i false=decide (i<q))∧wpOps P ops Q (List.range' q (ops.size - q)) a w)
  (fun i o ho=>(at' ho).back) ?_ ?_ ?_
 ·intro listed a w i o ho hsz hli hdeps hJ;have hi:i<ops.size:=(Array.getElem?_eq_some_iff.1 ho).1;have hil:i<listed.size:=by omega
  have A:=at' ho;have hset:∀ j,(listed.setIfInBounds i true).getD j false=(listed.getD j false || (j == i)):=by
   intro j;by_cases hji:j=i
   ·subst hji;simp [hil]
   ·simp [Array.getD_eq_getD_getElem?,Array.getElem?_setIfInBounds_ne (Ne.symm hji),hji]
  have hlf:listed.getD i false=false:=by
   rw [Array.getD,dif_pos hil] at hli ⊢;exact hli
  have goOn:∀ q,q=i->k<=q->(∀ j,j<ops.size->listed.getD j false=decide (j<q))->wpOps P ops Q (List.range' q (ops.size - q)) a w->wpOp P ops Q i (fun a' w'=>(∃ (u:Nat->Value) (m:Nat),(∀ i_1,k<=i_1->(listed.setIfInBounds i true).getD i_1 false=false)∧m+(listed.setIfInBounds i true).toList.count false=ops.size∧a'=fill ops u (fun j=>(listed.setIfInBounds i true).getD j false) a0 ops.size ∧
   (∀ i_1,i_1<ops.size->(listed.setIfInBounds i true).getD i_1 false=true->∀ j,j∈T i_1->(listed.setIfInBounds i true).getD j false=true)∧(∀ i_1,i_1<ops.size->(listed.setIfInBounds i true).getD i_1 false=true->R i_1 (u i_1) w')∧I m w') ∨
   ∃ q,k<=q∧q<=ops.size∧(∀ j,j<ops.size->(listed.setIfInBounds i true).getD j false=decide (j<q))∧wpOps P ops Q (List.range' q (ops.size - q)) a' w') a w:=by
   intro q hq hkq hl hw;subst hq;rw [show ops.size - q=(ops.size - (q+1))+1 by omega,List.range'_succ,wpOps_cons] at hw;refine wpOp_mono (fun a' w' h=>.inr ⟨q+1,by omega,by omega,fun j hj=>?_,h⟩) hw;rw [hset,hl j hj,Bool.eq_iff_iff];simp;omega
  have hdown':∀ j,j<i->k<=i->(∀ e:Edge,e∈o.after->Region.binds .any e=true->∀ q,q∈T e.on->listed.getD q false=true)->listed.getD j false=true:=by
   intro j hj hki hd;obtain ⟨_,e,he,hb,h⟩:=A.anc j (okTail_at htl hi hki hj);rcases h with h|h
   ·rw [<- h];exact hdeps e he hb
   ·exact hd e he hb j h
  rcases hJ with ⟨u,m,hno,hcnt,ha,hdown,hR,hI⟩|⟨q,hkq,hqn,hl,hw⟩
  rotate_left
  ·-- behind the open part
   have hiq:q<=i:=by
    rcases Nat.lt_or_ge i q with h|h
    ·have:=hl i hi;rw [hlf] at this;simp at this;omega
    ·exact h
   have:∀ j,j<i->listed.getD j false=true:=fun j hj=>hdown' j hj (by omega) fun e he hb p hp=>by
    have h1:=A.back e he hb;have h2:=hdeps e he hb;rw [hl e.on (by omega)] at h2;have h3:e.on<q:=of_decide_eq_true h2;obtain ⟨oo,hoo⟩:∃ oo,ops[e.on]?=some oo:=⟨_,Array.getElem?_eq_getElem (by omega)⟩;have h4:=((at' hoo).anc p hp).1;rw [hl p (by omega)];exact decide_eq_true (by omega)
   have hqi:q=i:=by
    rcases Nat.lt_or_ge q i with h|h
    ·have h1:=this q h;rw [hl q (by omega)] at h1;have:=of_decide_eq_true h1;omega
    ·omega
   exact goOn q hqi hkq hl hw
  by_cases hik:k<=i
  ·-- the first one behind the open part
   have hall:∀ j,j<i->listed.getD j false=true:=fun j hj=>hdown' j hj hik fun e he hb p hp=>hdown e.on (by have:=A.back e he hb;omega) (hdeps e he hb) p hp;have hki:k=i:=by
    rcases Nat.lt_or_ge k i with h|h
    ·have h1:=hall k h;rw [hno k (Nat.le_refl _)] at h1;simp at h1
    ·omega
   have hyes:∀ j,j<k->listed.getD j false=true:=fun j hj=>hall j (by omega);obtain rfl:=full listed m hsz hcnt hno hyes;have hw:=hend u w hI (fun j hj=>hR j (by omega) (hyes j hj));rw [<- fill_upto u (fun i=>listed.getD i false) a0 m (fun j hj=>hno j hj) hyes ops.size hk,<- ha] at hw;exact goOn m hki (Nat.le_refl _) (fun j hj=>by
    by_cases h1:j<m
    ·rw [hyes j h1];exact (decide_eq_true h1).symm
    ·rw [hno j (by omega)];exact (decide_eq_false h1).symm) hw
  have hlf':listed[i]=false:=by rw [Array.getD,dif_pos hil] at hlf;exact hlf
  have hT:∀ j,j∈T i->listed.getD j false=true:=by
   intro j hj;obtain ⟨_,e,he,hb,h⟩:=A.anc j hj;have h1:=hdeps e he hb;rcases h with h|h
   ·rw [<- h];exact h1
   ·exact hdown e.on (by have:=A.back e he hb;omega) h1 j h
  have hwr:∀ t,t∈tmpsOf o++o.dst.toList->∀ j,j<ops.size->dstOf ops j=some t->i<j->listed.getD j false=false:=by
   intro t ht j hj hdj hij;rcases Bool.eq_false_or_eq_true (listed.getD j false) with h|h
   ·have:=hdown j hj h i (((A.order t ht j hj (by omega) hdj).2 hij));rw [hlf] at this;simp at this
   ·exact h
  have hev:∀ x,x∈o.op.operands->a.eval x=rho ops a0 u i x:=by
   intro x hx;subst ha;cases x with
   | tmp t =>
    have ht:t∈tmpsOf o++o.dst.toList:=List.mem_append_left _ (List.mem_filterMap.2 ⟨.tmp t,by simpa using hx,rfl⟩);rw [fill_eval u _ a0 hdst];have e:lastW ops (fun i=>listed.getD i false) t ops.size=lastW ops (fun _=>true) t i:=by
     rw [lastW_stop _ t i ops.size (by omega)]
     ·exact lastW_congr _ _ t i fun j hj hdj=>hT j ((A.order t ht j (by omega) (by omega) hdj).1 hj)
     ·intro j h1 h2 hdj;by_cases hji:j=i
      ·subst hji;exact hlf
      ·exact hwr t ht j h2 hdj (by omega)
    rw [e];rfl
   | const v=>rfl
   | global g=>rfl
   | func f=>rfl
  have hmem0:false∈listed.toList:=by rw [<- hlf'];exact Array.getElem_mem_toList _
  have hpos:=List.count_pos_iff.2 hmem0;have hw:=hop i (by omega) o ho u m w (by omega) hI (fun j hj=>hR j (by have:=(A.anc j hj).1;omega) (hT j hj)) a hev;unfold wpOp;rw [ho];have hwant:Region.wanted o (yielded ops a.tmps)=true:=by
   rcases A.guard with hg|⟨g,b,d,hg,hgT,hgd1,hds,hon⟩
   ·simp [Region.wanted,hg]
   ·have hgl:=hT g hgT;have hgi:g<i:=(A.anc g hgT).1;have hv:u g = .bool b:=hgd i o g b (by omega) ho hg _ _ (hR g (by omega) hgl);have he:=fill_eval (ops:=ops) u (fun i=>listed.getD i false) a0 hdst d ops.size;rw [lastW_only hgd1 hgl ops.size (by omega) hon,<- ha] at he;simp only [hv] at he;have hy:yielded ops a.tmps g=some b:=by
     unfold yielded;unfold dstOf at hgd1;cases hog:ops[g]? with
     | none=>rw [hog] at hgd1;simp at hgd1
     | some og =>
      rw [hog] at hgd1;simp only [Option.bind_some] at hgd1;simp only [Act.eval,Array.getD_eq_getD_getElem?] at he;simp [hgd1];cases hx:a.tmps[d]? with
      | none=>rw [hx] at he;simp [undef] at he
      | some y=>rw [hx] at he;simp at he;subst he;rfl
    simp [Region.wanted,hg,hy]
  simp only [hwant,if_true];refine .inl (Oper.wp_mono (fun a' w' h=>?_) hw);obtain ⟨v,rfl,hRi,hI',hst⟩:=h;refine .inl ⟨fun j=>if j=i then v else u j,m+1,fun j hj=>by rw [hset,hno j hj];simp;omega,?_,?_,?_,?_,hI'⟩
  ·rw [Array.toList_setIfInBounds,List.count_set (by simpa using hil)];have hmem:false∈listed.toList:=by rw [<- hlf'];exact Array.getElem_mem_toList _
   have hp:=List.count_pos_iff.2 hmem;rw [if_pos (by simp [hlf']),if_neg (by simp)];omega
  ·have hd:dstOf ops i=o.dst:=by simp [dstOf,ho]
   rw [show (fun i_1=>(listed.setIfInBounds i true).getD i_1 false)=(fun j=>(listed.getD j false || (j == i))) from funext hset];rw [fill_put u (fun i=>listed.getD i false) a0 i v hlf ops.size hi,hd,ha];intro j d hij hLj hdi hdj;have hjs:j<ops.size:=by
    rcases Nat.lt_or_ge j ops.size with h|h
    ·exact h
    ·rw [Array.getD,dif_neg (by omega)] at hLj;simp at hLj
   rw [hd] at hdi;have:=hwr d (List.mem_append_right _ (by simp [hdi])) j hjs hdj hij;rw [this] at hLj;simp at hLj
  ·intro k hk hlk j hj;rw [hset] at hlk ⊢;rcases Bool.or_eq_true _ _ ▸ hlk with h|h
   ·rw [hdown k hk h j hj];rfl
   ·obtain rfl:k=i:=by simpa using h
    rw [hT j hj];rfl
  ·intro k hk hlk;rw [hset] at hlk;by_cases hki:k=i
   ·subst hki;simpa using hRi
   ·simp only [hki,if_false];refine hst k _ (hR k hk ?_);simpa [hki] using hlk
 ·intro listed a w hsz hall hJ;rcases hJ with ⟨u,m,hno,hcnt,ha,hdown,hR,hI⟩|⟨q,hkq,hqn,hl,hw⟩
  ·have hkn:k=ops.size:=by
    rcases Nat.lt_or_ge k ops.size with h|h
    ·have h1:=hall k h;rw [hno k (Nat.le_refl _)] at h1;simp at h1
    ·omega
   have hyes:∀ j,j<k->listed.getD j false=true:=fun j hj=>hall j (by omega);obtain rfl:=full listed m hsz hcnt hno hyes;have hw:=hend u w hI (fun j hj=>hR j (by omega) (hyes j hj));rw [<- fill_upto u (fun i=>listed.getD i false) a0 m (fun j hj=>hno j hj) hyes ops.size hk,<- ha,show ops.size - m=0 by omega] at hw;exact hw
  ·have hqn':q=ops.size:=by
    rcases Nat.lt_or_ge q ops.size with h|h
    ·have h1:=hall q h;rw [hl q h] at h1;have:=of_decide_eq_true h1;omega
    ·omega
   rw [hqn',Nat.sub_self] at hw;exact hw
 ·have hrep:∀ i,(Array.replicate ops.size false).getD i false=false:=by
   intro i;by_cases h:i<ops.size<;>simp [Array.getD,h]
  refine .inl ⟨fun _=>undef,0,fun i _=>hrep i,by simp,?_,fun i _ h=>by rw [hrep] at h;simp at h,fun i _ h=>by rw [hrep] at h;simp at h,h0⟩;have:∀ n,fill ops (fun _=>undef) (fun i=>(Array.replicate ops.size false).getD i false) a0 n=a0:=by
   intro n
   induction n with
   | zero=>rfl
   | succ n ih=>unfold fill;rw [hrep,ih];simp
  exact (this _).symm
theorem fill_setAll_take {L:List Value} {df:List Deferred} {ds:List (Option Tmp)} {k:Nat} (hd:(ops.toList.take k).map (·.dst)=ds) (u:Nat->Value) (hk:k<=ops.size) :
 fill ops u (fun _=>true) ⟨L.toArray,df⟩ k=⟨(setAll ds u 0 L).toArray,df⟩:=by
 have h:=fill_setAll (ops:=(ops.toList.take k).toArray) (L:=L) (df:=df) (ds:=ds) (by simpa using hd) u;have hs:(ops.toList.take k).toArray.size=k:=by simp;omega
 rw [hs] at h;rw [<- h];have:∀ n,n<=k->fill ops u (fun _=>true) ⟨L.toArray,df⟩ n=fill (ops.toList.take k).toArray u (fun _=>true) ⟨L.toArray,df⟩ n:=by
  intro n
  induction n with
  | zero=>intro _;rfl
  | succ n ih =>
   intro hn;unfold fill;rw [ih (by omega)];have:dstOf ops n=dstOf (ops.toList.take k).toArray n:=by
    unfold dstOf;simp [List.getElem?_take,show n<k by omega]
   rw [this]
 exact this k (Nat.le_refl _)
def okGuards (ops:Array Oper) (k:Nat) (G:List (Nat × Bool)):Bool:=(List.range k).all fun i=>match ops[i]? with
 | none=>true
 | some o=>match o.guard with
  | none=>true
  | some p=>G.contains p
theorem okGuards_at {G:List (Nat × Bool)} {k:Nat} (h:okGuards ops k G=true) {i:Nat} {o:Oper} {p:Nat × Bool} (hi:i<k) (ho:ops[i]?=some o) (hg:o.guard=some p):p∈G:=by
 unfold okGuards at h;rw [List.all_eq_true] at h;have h1:=h i (List.mem_range.2 hi);rw [ho] at h1;simp only [hg] at h1;simpa using h1
theorem wp_region_tail {id:Nat} {L:List Value} {df:List Deferred} {w:World} (hm:P.follows .mixedOrders=true) (T:Nat->List Nat) (R:Nat->Value->World->Prop) (I:Nat->World->Prop) (size n k:Nat) (ds:List (Option Tmp)) (tl:List Oper)
 (hsize:L.length=size) (hn:ops.size=n) (hk:k<=n) (hd:(ops.toList.take k).map (·.dst)=ds) (htl:ops.toList.drop k=tl) (hok:okRegionG ops T size=true) (hot:okTail ops T k=true) (G:List (Nat × Bool)) (hG:okGuards ops k G=true) (hGR:∀ g b,(g,b)∈G->∀ v w,R g v w->v = .bool b) (h0:I 0 w.drew) (hop:∀ i,i<k->Owes P ops Q T R I ⟨L.toArray,df⟩ i)
 (hend:∀ (u:Nat->Value) (w':World),I k w'->(∀ i,i<k->R i (u i) w')->wpList P ops Q tl ⟨(setAll ds u 0 L).toArray,df⟩ w') :
 (Code.region id ops true).wp P Q ⟨L.toArray,df⟩ w:=by
 subst hn;refine region_tail_gen (wI:=w.drew) (fun J h1 h2 h3 h4=>wp_region_any hm (wpAny_inv J h1 h2 h3 ops.size _ _ _ (by simp) (by simp) h4)) T R I size k hk (by simpa using hsize) hok hot (fun i o g b hi ho hg=>hGR g b (okGuards_at hG hi ho hg)) h0 hop fun u w' hI hR=>?_;rw [fill_setAll_take hd u hk];have h:=hend u w' hI hR;have e:=wpOps_eq_wpList (P:=P) (ops:=ops) (Q:=Q) tl k (fun j=>by rw [<- htl];simp);have hl:tl.length=ops.size - k:=by rw [<- htl];simp
 rw [hl] at e;rw [e];exact h
theorem wpList_guarded {o:Oper} {rest:List Oper} {a:Act} {w:World} (hw:Region.wanted o (yielded ops a.tmps)=true) (h:wpList P ops Q ({ o with guard:=none }::rest) a w):wpList P ops Q (o::rest) a w:=by
 unfold wpList at h ⊢;rw [if_pos hw];rw [if_pos (by simp [Region.wanted])] at h;exact h
end Go.Proofs.Ytmcjklicepaiaaa
namespace Go.Proofs.Ytmcjklicepaiaaa
open Go
def frm (n:Nat) (l:List (Nat × Value)):List Value:=l.foldl (fun L p=>L.set p.1 p.2) (List.replicate n undef)
theorem frm_len (n:Nat) (l:List (Nat × Value)):(frm n l).length=n:=by
 unfold frm;have:∀ (l:List (Nat × Value)) (L:List Value),(l.foldl (fun L p=>L.set p.1 p.2) L).length=L.length:=by
  intro l
  induction l with
  | nil=>intro L;rfl
  | cons p l ih=>intro L;rw [List.foldl_cons,ih];simp
 rw [this];simp
theorem frm_lt {n d:Nat} {l:List (Nat × Value)} (h:d<n):d<(frm n l).toArray.size:=by
 rw [List.size_toArray,frm_len];exact h
variable {P:Program} {ops:Array Oper} {Q:Exit->Act->World->Prop}
theorem Owes.q {T:Nat->List Nat} {R:Nat->Value->World->Prop} {I:Nat->World->Prop} {a0:Act} {i:Nat} {o:Oper} (n:Nat) (l:(Nat->Value)->List (Nat × Value))
 (h:∀ (u:Nat->Value) (w:World),(∃ m,I m w)->(∀ j,j∈T i->R j (u j) w)->wpList P #[] (Via ⟨(frm n (l u)).toArray,[]⟩ o (fun v w'=>R i v w'∧w'=w)) [o] ⟨(frm n (l u)).toArray,[]⟩ w)
 (ho:ops[i]?=some o:=by exact rfl) (hg:o.guard=none:=by exact rfl) (hs:∀ cs b,o.op ≠ .select cs b:=by exact fun _ _ h=>by cases h) (hI1:∀ m w,I m w->I (m+1) w:=by exact fun _ _ h=>h) (hd:∀ d,o.dst=some d->d<n:=by exact fun d e=>by cases e;decide)
 (he:∀ u,o.op.operands.toList.map (rho ops a0 u i)=o.op.operands.toList.map (Act.eval ⟨(frm n (l u)).toArray,[]⟩):=by exact fun _=>rfl):Owes P ops Q T R I a0 i:=by
 intro o' ho' u m w hm hI hR a hev;obtain rfl:o'=o:=Option.some.inj (ho'.symm.trans ho);have h1':∀ x,x∈o'.op.operands->rho ops a0 u i x=(Act.mk (frm n (l u)).toArray []).eval x:=fun x hx=>List.map_inj_left.1 (he u) x (by simpa using hx);refine Oper.wp_mono (fun a' w' h3=>?_) (wp_via (a1:=⟨(frm n (l u)).toArray,[]⟩) hg hs (fun x hx=>(hev x hx).trans (h1' x hx)) (fun d e=>frm_lt (hd d e)) (h u w ⟨m,hI⟩ hR));obtain ⟨v,e,hRv,rfl⟩:=h3;exact ⟨v,e,hRv,hI1 m _ hI,fun _ _ hx=>hx⟩
theorem Owes.qG {T:Nat->List Nat} {R:Nat->Value->World->Prop} {I:Nat->World->Prop} {a0:Act} {i:Nat} {o o':Oper} (n:Nat) (l:(Nat->Value)->List (Nat × Value))
 (h:∀ (u:Nat->Value) (w:World),(∃ m,I m w)->(∀ j,j∈T i->R j (u j) w)->wpList P #[] (Via ⟨(frm n (l u)).toArray,[]⟩ o' (fun v w'=>R i v w'∧w'=w)) [o'] ⟨(frm n (l u)).toArray,[]⟩ w)
 (ho:ops[i]?=some o:=by exact rfl) (ho':o'={ o with guard:=none }:=by exact rfl) (hs:∀ cs b,o.op ≠ .select cs b:=by exact fun _ _ h=>by cases h) (hI1:∀ m w,I m w->I (m+1) w:=by exact fun _ _ h=>h) (hd:∀ d,o'.dst=some d->d<n:=by exact fun d e=>by cases e;decide)
 (he:∀ u,o'.op.operands.toList.map (rho ops a0 u i)=o'.op.operands.toList.map (Act.eval ⟨(frm n (l u)).toArray,[]⟩):=by exact fun _=>rfl):Owes P ops Q T R I a0 i:=by
 intro o2 ho2 u m w hm hI hR a hev;obtain rfl:o2=o:=Option.some.inj (ho2.symm.trans ho);subst ho';have h1':∀ x,x∈o2.op.operands->rho ops a0 u i x=(Act.mk (frm n (l u)).toArray []).eval x:=fun x hx=>List.map_inj_left.1 (he u) x (by simpa using hx);have h5:Oper.wp P { o2 with guard:=none } a w (fun a' w'=>∃ v,a'=a.put o2.dst v∧R i v w'∧I (m+1) w'∧∀ j x,R j x w->R j x w') Q:=by
  refine Oper.wp_mono (fun a' w' h3=>?_) (wp_via (o:={ o2 with guard:=none }) (a1:=⟨(frm n (l u)).toArray,[]⟩) rfl hs (fun x hx=>(hev x hx).trans (h1' x hx)) (fun d e=>frm_lt (hd d e)) (h u w ⟨m,hI⟩ hR));obtain ⟨v,e,hRv,rfl⟩:=h3;exact ⟨v,e,hRv,hI1 m _ hI,fun _ _ hx=>hx⟩
 exact h5
end Go.Proofs.Ytmcjklicepaiaaa
