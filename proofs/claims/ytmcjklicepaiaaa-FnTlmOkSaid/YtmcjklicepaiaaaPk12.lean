/-
 Texts of this claim laid together: Own DBox Facts3.
-/
import Derived.Test.YtmcjklicepaiaaaPk11
import Derived.OwnWalk
import Derived.WalkSmall
set_option linter.unusedVariables false
set_option linter.unusedSimpArgs false
namespace Go.Proofs.Ytmcjklicepaiaaa
open Go.RowKit Go.WideShapes
variable {α:Type} {K:Nat} {c:α->List Value} {e:TypeId} {w w':World} {base:Nat} {v:Value} {l:List α}
def OwnR (K:Nat) (c:α->List Value) (e:TypeId) (base:Nat) (w:World) (v:Value) (l:List α):Prop:=w.ownsRow base e K v l.length (l.flatMap c)
theorem OwnR.reads (hk:∀ x,(c x).length=K) (h:OwnR K c e base w v l):∃ fp,SlR K (fun _ x cs fp=>cs=c x∧fp=[]) w l v fp∧(∀ b,b∈fp->base<=b)∧fp.Nodup∧Free fp w :=
 SlR.of_owns h rfl hk (flat_at hk _)
theorem OwnR.chg {rb:Nat} (h:OwnR K c e base w v l) (hc:Chg [rb] w w') (hrb:rb<base):OwnR K c e base w' v l :=
 World.ownsRow.kept h (row:=some rb) ⟨hc.os,hc.tape,hc.output,hc.size,fun k hk hne=>hc.block k hk (by simp;intro e;exact hne (by rw [e]))⟩ (.inr (fun q=>by have:=(World.ownsRow.lt h rb q).1;omega))
theorem OwnR.below (h:OwnR K c e base w v l) (hb:Below w.heap.size w w'):OwnR K c e base w' v l :=
 World.ownsRow.kept h (row:=none) ⟨hb.os,hb.tape,hb.output,hb.size,fun k hk _=>hb.block k hk⟩ (by
  rcases h.2 with ⟨rfl,_⟩|⟨g,cap,cur,rfl,_⟩
  ·exact .inl rfl
  ·exact .inr (by simp [Value.ownBlock]))
theorem OwnR.lower {base':Nat} (h:OwnR K c e base w v l) (hb:base'<=base):OwnR K c e base' w v l :=
 ⟨h.1,h.2.elim .inl fun ⟨g,cap,cur,q,hg,r⟩=>.inr ⟨g,cap,cur,q,Nat.le_trans hb hg,r⟩⟩
theorem OwnR.nil (w:World) (base:Nat):OwnR K c e base w (.slice none 0 0) []:=World.ownsRow_nil w base e K
theorem OwnR.lit (w:World) (A:Array Value) (n:Nat) (l:List α) (hk:∀ x,(c x).length=K) (hA:A.toList=l.flatMap c) (hn:l.length=n) (hb:base<=w.heap.size) (hm:n<=maxLen):OwnR K c e base (w.alloc (.cells A e)) (.slice (some ⟨w.heap.size,0,none⟩) n n) l:=by
 subst hn;unfold OwnR;rw [<- hA];exact World.ownsRow_lit w A l.length hb hm (by rw [<- Array.length_toList,hA,flat_len hk])
theorem OwnR.form (h:OwnR K c e base w v l) (hl:l≠[]):∃ g cap,v = .slice (some ⟨g,0,none⟩) l.length cap∧base<=g∧g<w.heap.size∧l.length<=cap∧cap<=maxLen:=by
 rcases h.2 with ⟨rfl,h0⟩|⟨g,cap,cur,rfl,hb,hg,hnc,hcm,_⟩
 ·simp at h0;exact absurd h0 hl
 ·refine ⟨g,cap,rfl,hb,?_,hnc,hcm⟩;rcases Nat.lt_or_ge g w.heap.size with h|h
  ·exact h
  ·simp [Array.getElem?_eq_none h] at hg
theorem OwnR.slice (h:OwnR K c e base w v l):∃ (a:Option Addr) (n cap:Nat),v = .slice a n cap∧l.length=n∧n<=cap∧cap<=maxLen:=by
 rcases h.2 with ⟨rfl,h0⟩|⟨g,cap,cur,rfl,hb,hg,hnc,hcm,_⟩
 ·exact ⟨_,_,_,rfl,h0,Nat.le_refl _,Nat.zero_le _⟩
 ·exact ⟨_,_,_,rfl,rfl,hnc,hcm⟩
theorem flat_take (hk:∀ x,(c x).length=K) (l:List α):∀ m,(l.flatMap c).take (m*K)=(l.take m).flatMap c:=by
 induction l with
 | nil=>intro m;simp
 | cons x l ih =>
  intro m;cases m with
  | zero=>simp
  | succ m =>
   rw [List.flatMap_cons,List.take_succ_cons,List.flatMap_cons,Nat.succ_mul,Nat.add_comm,<- hk x,List.take_length_add_append,hk x,ih]
theorem flat_set (hk:∀ x,(c x).length=K) (l:List α) (x':α) (u:Value) (j:Nat) (hj:j<K):∀ (i:Nat) (hi:i<l.length),c x'=(c l[i]).set j u->(l.flatMap c).set (i*K+j) u=(l.set i x').flatMap c:=by
 induction l with
 | nil=>intro i hi;simp at hi
 | cons x l ih =>
  intro i hi hx;cases i with
  | zero =>
   simp only [List.getElem_cons_zero] at hx;rw [List.flatMap_cons,List.set_cons_zero,List.flatMap_cons,hx,Nat.zero_mul,Nat.zero_add,List.set_append_left _ _ (by rw [hk];exact hj)]
  | succ i =>
   simp only [List.getElem_cons_succ] at hx;rw [List.flatMap_cons,List.set_cons_succ,List.flatMap_cons,List.set_append_right _ _ (by rw [hk,Nat.succ_mul];omega),hk,
    show (i+1)*K+j - K=i*K+j by rw [Nat.succ_mul];omega,ih i (by simpa using hi) hx]
theorem OwnR.take {g n cap:Nat} (hk:∀ x,(c x).length=K) (h:OwnR K c e base w (.slice (some ⟨g,0,none⟩) n cap) l) (m:Nat) (hm:m<=l.length):OwnR K c e base w (.slice (some ⟨g,0,none⟩) m cap) (l.take m):=by
 have hlm:(l.take m).length=m:=by simp;omega
 obtain ⟨hl,⟨h1,_⟩|⟨g',cap',cur,h1,hb,hg,hnc,hcm,hcs,ht⟩⟩:=h
 ·simp at h1
 ·simp only [Value.slice.injEq,Option.some.injEq,Addr.mk.injEq,and_true] at h1;obtain ⟨rfl,rfl,rfl⟩:=h1;unfold OwnR;rw [hlm];refine ⟨by rw [flat_len hk,hlm],.inr ⟨g,cap,cur,rfl,hb,hg,by omega,hcm,hcs,?_⟩⟩;rw [<- flat_take hk,<- ht,List.take_take]
  congr 1
  exact (Nat.min_eq_left (Nat.mul_le_mul_right K hm)).symm
theorem OwnR.cell {g n cap:Nat} (hk:∀ x,(c x).length=K) (h:OwnR K c e base w (.slice (some ⟨g,0,none⟩) n cap) l) {i:Nat} (hi:i<l.length) {j:Nat} (hj:j<(c l[i]).length):w.cell? ⟨g,i*K+j,none⟩=some (c l[i])[j]:=by
 have hn:n=l.length:=by
  obtain ⟨_,⟨h1,_⟩|⟨g',cap',cur,h1,_⟩⟩:=h
  ·simp at h1
  ·simp only [Value.slice.injEq] at h1;exact h1.2.1
 subst hn;have hlt:i*K+j<l.length*K:=by
  have h3:=hk l[i];have:(i+1)*K<=l.length*K:=Nat.mul_le_mul_right K (by omega);rw [Nat.succ_mul] at this;omega
 rw [World.ownsRow.cellAt h _ hlt,flat_at hk l i hi j hj]
theorem OwnR.frozen {g n cap:Nat} (h:OwnR K c e base w (.slice (some ⟨g,0,none⟩) n cap) l) (j:Nat):w.frozen? ⟨g,j,none⟩=false:=by
 have hn:n=l.length:=by
  obtain ⟨_,⟨h1,_⟩|⟨g',cap',cur,h1,_⟩⟩:=h
  ·simp at h1
  ·simp only [Value.slice.injEq] at h1;exact h1.2.1
 subst hn;exact World.ownsRow.frozenAt h j
theorem OwnR.store {g n cap:Nat} (hk:∀ x,(c x).length=K) (h:OwnR K c e base w (.slice (some ⟨g,0,none⟩) n cap) l) {i:Nat} (hi:i<l.length) {j:Nat} (hj:j<K) (u:Value) (x':α) (hx:c x'=(c l[i]).set j u) :
 OwnR K c e base (w.setCell ⟨g,i*K+j,none⟩ u) (.slice (some ⟨g,0,none⟩) n cap) (l.set i x'):=by
 have hn:n=l.length:=by
  obtain ⟨_,⟨h1,_⟩|⟨g',cap',cur,h1,_⟩⟩:=h
  ·simp at h1
  ·simp only [Value.slice.injEq] at h1;exact h1.2.1
 subst hn;have:=(World.ownsRow.stored h (i*K+j) u).1;unfold OwnR;rw [List.length_set,<- flat_set hk l x' u j hj i hi hx];exact this
theorem store_chg {w:World} {g j:Nat} (u:Value):Chg [g] w (w.setCell ⟨g,j,none⟩ u):=⟨rfl,rfl,rfl,by simp,fun k _ hk=>Below.heap_setCell _ _ _ _ (fun e=>hk (by simp [e]))⟩
theorem Chg.low {fp:List Nat} {a b d:World} (h:Chg fp a b) (hb:Below a.heap.size b d):Chg fp a d :=
 ⟨hb.os.trans h.os,hb.tape.trans h.tape,hb.output.trans h.output,Nat.le_trans h.size hb.size,fun k hk hn=>(hb.block k hk).trans (h.block k hk hn)⟩
theorem Free.low {fp:List Nat} {B:Nat} {a b:World} (h:Free fp a) (hb:Below B a b) (hl:∀ k,k∈fp->k<B):Free fp b:=fun k hk o=>(World.frozen?_of_block (hb.block k (hl k hk))).trans (h k hk o)
theorem SlR.low {α:Type} {k:Nat} {R:Pr α} (F:Fits k R) {B:Nat} {w w':World} {l:List α} {v:Value} {fp:List Nat} (h:SlR k R w l v fp) (hb:Below B w w') (hl:∀ b,b∈fp->b<B):SlR k R w' l v fp :=
 h.same F (fun b hb'=>hb.block b (hl b hb')) hb.size
theorem wpList_pushR {P:Program} {ops:Array Oper} {rest:List Oper} {o:Oper} {a:Act} {Q:Exit->Act->World->Prop} {w:World} {base m:Nat} {v:Value} {l news:List α} {A:Array Value}
 (hgd:o.guard=none) (s x:Operand) (t e:TypeId) (i:TypeInfo) (z:Value) (bytes:Nat) (T:TypeId) (hk:∀ x,(c x).length=K)
 (ho:o.op = .call { callee:=.builtin .append,args := #[s,x],argTypes := #[t,t] })
 (ht:P.underlying t=some (.slice e)) (hi:P.info? e=some i) (hz:i.zero=some z) (hsize:i.size=K) (hby:i.bytes=bytes) (hzs:z.cells.size=K) (hsz:0<K) (hb8:bytes<=128)
 (hs:a.eval s=v) (hx:a.eval x = .slice (some ⟨w.heap.size,0,none⟩) m m) (hown:OwnR K c e base w v l) (hA:A.toList=news.flatMap c) (hm:news.length=m) (h1:∀ u∈news.flatMap c,u.oneCell'=true)
 (hn:l.length<=2000000) (hmm:m<=1000) (hbase:base<=w.heap.size)
 (h:∀ v' w',OwnR K c e base w' v' (l++news)->Below base w w'->wpList P ops Q rest (a.put o.dst v') w') :
 wpList P ops Q (o::rest) a (w.alloc (.cells A T)):=by
 have hl:(news.flatMap c).length=m*K:=by rw [flat_len hk,hm]
 refine wpList_append_own _ hgd s x t ho base e i z K bytes ht hi hz hsize hby hzs hsz v l.length (l.flatMap c) hs (World.ownsRow.alloc hown _) ⟨w.heap.size,0,none⟩ m m (news.flatMap c) hx hl ?_ h1 (by unfold maxLen;omega) ?_ (by simp;omega) ?_
 ·intro j u hj;rw [add_plain,Nat.zero_add];exact alloc1_new w _ _ j (by rw [<- Array.getElem?_toList,hA];exact hj)
 ·have:(l.length+m)*bytes<=2001000*128:=Nat.mul_le_mul (by omega) hb8;omega
 ·intro v' w' hown' hgr _;have hz1:w.heap.size<=w'.heap.size:=by have:=hgr.size;simp at this;omega
  have ho':OwnR K c e base w' v' (l++news):=by
   unfold OwnR;rw [List.length_append,List.flatMap_append,hm];exact hown'
  exact h v' w' ho' ⟨hgr.os,hgr.tape,hgr.output,hz1,fun k hk=>(hgr.block k (by simp;omega) (fun q=>by have:=(World.ownsRow.lt hown k q.symm).1;omega)).trans (Below.heap_alloc _ _ _ (by omega))⟩
theorem SlR.flat_cells (hk:∀ x,(c x).length=K) (h0:0<K) {b off n cap:Nat} {fp:List Nat} (h:SlR K (fun _ x cs fp=>cs=c x∧fp=[]) w l (.slice (some ⟨b,off,none⟩) n cap) fp):∀ j u,(l.flatMap c)[j]?=some u->w.cell? ((⟨b,off,none⟩:Addr).add j)=some u:=by
 intro j u hj;have hjl:j<l.length*K:=by
  have:=(List.getElem?_eq_some_iff.1 hj).1
  rwa [flat_len hk] at this
 have hi:j / K<l.length:=Nat.div_lt_of_lt_mul (by rw [Nat.mul_comm];exact hjl);have hm:j % K<K:=Nat.mod_lt _ h0;have e:j / K*K+j % K=j:=Nat.div_add_mod' j K;obtain ⟨a',n',cap',e1,hn,_,_,⟨rfl,_⟩|⟨b',off',fps,e2,_,_,hf,hc⟩⟩:=h
 ·simp at hi
 ·simp only [Value.slice.injEq] at e1;obtain ⟨rfl,rfl,rfl⟩:=e1;simp only [Option.some.injEq,Addr.mk.injEq,and_true] at e2;obtain ⟨rfl,rfl⟩:=e2;obtain ⟨cs,⟨rfl,_⟩,hcell⟩:=hc (j / K) hi (by omega);have hj':=hcell (j % K) (by rw [hk];exact hm);have h2:=flat_at hk l (j / K) hi (j % K) (by rw [hk];exact hm);rw [e] at h2;rw [hj] at h2;rw [add_plain,show off+j=off+j / K*K+j % K by omega,hj'];exact h2.symm
theorem wpList_appendR {P:Program} {ops:Array Oper} {rest:List Oper} {o:Oper} {a:Act} {Q:Exit->Act->World->Prop} {base m c2:Nat} {v:Value} {l news:List α} {A:Addr}
 (hgd:o.guard=none) (s x:Operand) (t e:TypeId) (i:TypeInfo) (z:Value) (bytes:Nat) (hk:∀ x,(c x).length=K)
 (ho:o.op = .call { callee:=.builtin .append,args := #[s,x],argTypes := #[t,t] })
 (ht:P.underlying t=some (.slice e)) (hi:P.info? e=some i) (hz:i.zero=some z) (hsize:i.size=K) (hby:i.bytes=bytes) (hzs:z.cells.size=K) (hsz:0<K) (hb8:bytes<=128)
 (hs:a.eval s=v) (hx:a.eval x = .slice (some A) m c2) (hown:OwnR K c e base w v l) (hm:news.length=m) (hnews:∀ j u,(news.flatMap c)[j]?=some u->w.cell? (A.add j)=some u) (h1:∀ u∈news.flatMap c,u.oneCell'=true)
 (hn:l.length<=2000000) (hmm:m<=2000000) (hbase:base<=w.heap.size)
 (h:∀ v' w',OwnR K c e base w' v' (l++news)->w.grownBy w' v.ownBlock->wpList P ops Q rest (a.put o.dst v') w') :
 wpList P ops Q (o::rest) a w:=by
 have hl:(news.flatMap c).length=m*K:=by rw [flat_len hk,hm]
 refine wpList_append_own _ hgd s x t ho base e i z K bytes ht hi hz hsize hby hzs hsz v l.length (l.flatMap c) hs hown A m c2 (news.flatMap c) hx hl hnews h1 (by unfold maxLen;omega) ?_ hbase ?_
 ·have:(l.length+m)*bytes<=4000000*128:=Nat.mul_le_mul (by omega) hb8;omega
 ·intro v' w' hown' hgr _;refine h v' w' ?_ hgr;unfold OwnR;rw [List.length_append,List.flatMap_append,hm];exact hown'
theorem wpList_append_empty {P:Program} {ops:Array Oper} {rest:List Oper} {o:Oper} {a:Act} {Q:Exit->Act->World->Prop} {m c2:Nat} {news:List α} {A B:Addr}
 (hgd:o.guard=none) (s x:Operand) (t e:TypeId) (i:TypeInfo) (z:Value) (bytes:Nat) (hk:∀ x,(c x).length=K)
 (ho:o.op = .call { callee:=.builtin .append,args := #[s,x],argTypes := #[t,t] })
 (ht:P.underlying t=some (.slice e)) (hi:P.info? e=some i) (hz:i.zero=some z) (hsize:i.size=K) (hby:i.bytes=bytes) (hzs:z.cells.size=K) (hb8:bytes<=128)
 (hs:a.eval s = .slice (some B) 0 0) (hx:a.eval x = .slice (some A) m c2) (hm:news.length=m) (h0:0<m) (hnews:∀ j u,(news.flatMap c)[j]?=some u->w.cell? (A.add j)=some u)
 (hmm:m<=2000000)
 (h:∀ v' w',OwnR K c e w.heap.size w' v' news->Below w.heap.size w w'->wpList P ops Q rest (a.put o.dst v') w') :
 wpList P ops Q (o::rest) a w:=by
 have hl:(news.flatMap c).length=m*K:=by rw [flat_len hk,hm]
 subst hsize;have hmb:m*i.bytes<=2000000*128:=Nat.mul_le_mul hmm (by omega);have hfit:Builtin.nextslicecap (0+m) 0*i.bytes<=281474976710656:=by rw [Nat.zero_add];exact growslice_fits h0 (by omega)
 refine wpList_plain hgd fun K' hK'=>?_;have hr:=run_append_grow (P:=P) w t o.type e i z ht hi hz B 0 0 [] (by simp) (fun j v hj=>by simp at hj) A m c2 (news.flatMap c) hl hnews (by omega) (by omega) hfit;have hge:=grownCap_ge w (0+m) 0 e;have hcm:=grownCap_le_maxLen w (0+m) 0 e (by unfold maxLen;omega);unfold Oper.wp execOp;simp only [ho,resolve,invoke,builtin,Sem.run_bind,Sem.run_pure,Result.andThen_ok,List.map_toArray,List.map_cons,List.map_nil,hs,hx,hr];generalize grownCap w (0+m) 0 e=G at *;refine hK' _ _ (h _ _ ?_ ?_)
 ·have hd:w.drew.heap.size=w.heap.size:=rfl;refine ⟨by rw [hl,hm],.inr ⟨w.heap.size,G,_,by rw [Nat.zero_add,hm],Nat.le_refl _,heap_alloc_new w.drew _,by omega,hcm,?_,?_⟩⟩
  ·simp only [Array.size_append,List.size_toArray,size_zeroCells,hzs,hl,List.length_nil,Nat.zero_add,<- Nat.add_mul]
   congr 1
   omega
  ·simp only [Array.toList_append,List.nil_append,hm];rw [<- hl];exact List.take_left
 ·exact (Below.refl _ w).drew.alloc (Nat.le_refl _) _
theorem wpList_appendB {P:Program} {ops:Array Oper} {rest:List Oper} {o:Oper} {a:Act} {Q:Exit->Act->World->Prop} {base m c2:Nat} {v:Value} {l news:List α} {A:Addr}
 (hgd:o.guard=none) (s x:Operand) (t e:TypeId) (i:TypeInfo) (z:Value) (bytes:Nat) (hk:∀ x,(c x).length=K)
 (ho:o.op = .call { callee:=.builtin .append,args := #[s,x],argTypes := #[t,t] })
 (ht:P.underlying t=some (.slice e)) (hi:P.info? e=some i) (hz:i.zero=some z) (hsize:i.size=K) (hby:i.bytes=bytes) (hzs:z.cells.size=K) (hsz:0<K) (hb8:bytes<=128)
 (hs:a.eval s=v) (hx:a.eval x = .slice (some A) m c2) (hown:OwnR K c e base w v l) (hm:news.length=m) (hm0:0<m) (hnews:∀ j u,(news.flatMap c)[j]?=some u->w.cell? (A.add j)=some u) (h1:∀ u∈news.flatMap c,u.oneCell'=true)
 (hn:l.length<=2000000) (hmm:m<=2000000) (hbase:base<=w.heap.size)
 (h:∀ v' w',OwnR K c e base w' v' (l++news)->w.grownBy w' v.ownBlock->(v'.ownBlock=v.ownBlock∨v'.ownBlock=some w.heap.size)->wpList P ops Q rest (a.put o.dst v') w') :
 wpList P ops Q (o::rest) a w:=by
 have hl:(news.flatMap c).length=m*K:=by rw [flat_len hk,hm]
 have hmb:(l.length+m)*bytes<=4000000*128:=Nat.mul_le_mul (by omega) hb8;obtain ⟨v',w',hr,hown',hgr,_⟩:=run_append_own (P:=P) w base t o.type e i z K bytes ht hi hz hsize hby hzs hsz v l.length (l.flatMap c) hown A m c2 (news.flatMap c) hl hnews h1 (by unfold maxLen;omega) (by omega) hbase;have hblk:v'.ownBlock=v.ownBlock∨v'.ownBlock=some w.heap.size:=by
  subst hsize;rcases hown.2 with ⟨rfl,h0⟩|⟨g,cap,cur,rfl,hbg,hg,hnc,hcm,hcs,htake⟩
  ·have hr2:=run_append_nil (P:=P) w t o.type e i z ht hi hz A m c2 (news.flatMap c) hl hnews hm0 (by omega) (by rw [hby];have:m*bytes<=(l.length+m)*bytes:=Nat.mul_le_mul_right _ (by omega);omega);rw [hr] at hr2;injection hr2 with e1 e2;right;rw [e1];rfl
  ·by_cases hroom:l.length+m<=cap
   ·have hr2:=run_append_room (P:=P) w t o.type e i ht hi g l.length cap cur hg A m c2 (news.flatMap c) hl hnews h1 hroom (by rw [hl,hcs,<- Nat.add_mul];exact Nat.mul_le_mul_right _ hroom);rw [hr] at hr2;injection hr2 with e1 e2;left;rw [e1];rfl
   ·have hr2:=run_append_grow (P:=P) w t o.type e i z ht hi hz ⟨g,0,none⟩ l.length cap (l.flatMap c) (flat_len hk l) (World.ownsRow.cells hown (g:=g) rfl) A m c2 (news.flatMap c) hl hnews (by omega) (by omega) (growslice_fits (by omega) (by rw [hby];omega));rw [hr] at hr2;injection hr2 with e1 e2;right;rw [e1];rfl
 refine wpList_plain hgd fun K' hK'=>?_;unfold Oper.wp execOp;simp only [ho,resolve,invoke,builtin,Sem.run_bind,Sem.run_pure,Result.andThen_ok,List.map_toArray,List.map_cons,List.map_nil,hs,hx,hr];refine hK' _ _ (h v' w' ?_ hgr hblk);unfold OwnR;rw [List.length_append,List.flatMap_append,hm];exact hown'
theorem grown_below {w w':World} {base:Nat} {v:Value} (h:OwnR K c e base w v l) (hg:w.grownBy w' v.ownBlock) (hb:base<=w.heap.size):Below base w w' :=
 ⟨hg.os,hg.tape,hg.output,hg.size,fun k hk=>hg.block k (by omega) (fun q=>by have:=(World.ownsRow.lt h k q.symm).1;omega)⟩
end Go.Proofs.Ytmcjklicepaiaaa
namespace Go.Proofs.Ytmcjklicepaiaaa
open Go.RowKit Go.ChangeShapes Go.WideShapes
def IntC (x:Int):List Value:=[.int .i64 x]
theorem IntC_len (x:Int):(IntC x).length=1:=rfl
abbrev IntRow:=OwnR 1 IntC 3
theorem intRow_reads {w:World} {base:Nat} {v:Value} {l:List Int} (h:IntRow base w v l):∃ fp,SlR 1 intR w l v fp∧(∀ b,b∈fp->base<=b)∧fp.Nodup∧Free fp w:=OwnR.reads IntC_len h
theorem setSame {w:World} {b j:Nat} {u:Value} (v:Value) (h:w.cell? ⟨b,j,none⟩=some u):(w.setCell ⟨b,j,none⟩ v).cell? ⟨b,j,none⟩=some v:=World.cell?_setCell_same _ _ _ h
theorem setOther {w:World} {b i j:Nat} {u:Value} (v:Value) (hij:i≠j) (h:w.cell? ⟨b,j,none⟩=some u):(w.setCell ⟨b,i,none⟩ v).cell? ⟨b,j,none⟩=some u:=(World.cell?_setCell_other _ _ _ _ (fun e=>hij (by injection e))).trans h
theorem own_lt {w:World} {base:Nat} {v:Value} {l:List Int} (h:IntRow base w v l) {g:Nat} (e:v.ownBlock=some g):base<=g∧g<w.heap.size:=World.ownsRow.lt h g e
structure Low (rb B:Nat) (a b:World):Prop where
 le:a.heap.size<=B
 chg:Chg [rb] a b
theorem Low.step {rb B:Nat} {a b d:World} {fp:List Nat} (h:Low rb B a b) (c:Chg fp b d) (hf:∀ k,k∈fp->k=rb∨B<=k):Low rb B a d :=
 ⟨h.le,c.os.trans h.chg.os,c.tape.trans h.chg.tape,c.output.trans h.chg.output,Nat.le_trans h.chg.size c.size,fun k hk hn=>(c.block k (Nat.lt_of_lt_of_le hk h.chg.size) (fun hm=>by
  have:=h.le;rcases hf k hm with e|e
  ·exact hn (by simp [e])
  ·omega)).trans (h.chg.block k hk hn)⟩
theorem Low.below {rb B:Nat} {a b d:World} (h:Low rb B a b) (c:Below B b d):Low rb B a d :=
 ⟨h.le,c.os.trans h.chg.os,c.tape.trans h.chg.tape,c.output.trans h.chg.output,Nat.le_trans h.chg.size c.size,fun k hk hn=>(c.block k (Nat.lt_of_lt_of_le hk h.le)).trans (h.chg.block k hk hn)⟩
def IsBP (P:Bool->Prop) (v:Value):Prop:=∃ b:Bool,v = .bool b∧P b
theorem OwnR.readsB {α:Type} {K:Nat} {c:α->List Value} {e:TypeId} {base:Nat} {w:World} {v:Value} {l:List α} (hk:∀ x,(c x).length=K) (h:OwnR K c e base w v l) :
 ∃ fp,SlR K (fun _ x cs fp=>cs=c x∧fp=[]) w l v fp∧(∀ b,b∈fp->v.ownBlock=some b)∧fp.Nodup∧Free fp w:=by
 have h0:=h;obtain ⟨hl,⟨rfl,h1⟩|⟨g,cap,cur,rfl,hb,hg,hnc,hcm,hcs,htake⟩⟩:=h
 ·obtain rfl:l=[]:=by simpa using h1
  exact ⟨[],⟨none,0,0,rfl,rfl,Nat.le_refl _,by simp,.inl ⟨rfl,rfl⟩⟩,by simp,List.nodup_nil,fun b hb=>by simp at hb⟩
 ·have hgl:g<w.heap.size:=by
   rcases Nat.lt_or_ge g w.heap.size with h|h
   ·exact h
   ·simp [Array.getElem?_eq_none h] at hg
  refine ⟨[g],⟨_,_,cap,rfl,rfl,hnc,hcm,.inr ⟨g,0,List.replicate l.length [],rfl,hgl,by simp,by simp,fun i hi h'=>⟨c l[i],⟨rfl,by simp⟩,fun j hj=>?_⟩⟩⟩,fun b hb=>(by have e:b=g:=(by simpa using hb);rw [e];rfl),by simp,?_⟩
  ·have:=OwnR.cell hk h0 hi hj
   rwa [Nat.zero_add]
  ·intro b hb' o;obtain rfl:b=g:=by simpa using hb'
   exact frozen_of_row w b o cur e hg
theorem setFar {w:World} {g j b i:Nat} {v:Value} (u:Value) (hne:g≠b) (h:w.cell? ⟨b,i,none⟩=some v):(w.setCell ⟨g,j,none⟩ u).cell? ⟨b,i,none⟩=some v:=(World.cell?_setCell_other _ _ _ _ (fun e=>hne (by injection e))).trans h
theorem alloc1_free (w:World) (A:Array Value) (T:TypeId) (i:Nat):(w.alloc (.cells A T)).frozen? ⟨w.heap.size,i,none⟩=false:=World.frozen?_alloc_at _ _ _ _ rfl
theorem put3_0 {w:World} {b:Nat} {u:Value} (r s t:Value) (h:w.cell? ⟨b,0,none⟩=some u):(((w.setCell ⟨b,0,none⟩ r).setCell ⟨b,1,none⟩ s).setCell ⟨b,2,none⟩ t).cell? ⟨b,0,none⟩=some r:=setOther _ (by decide) (setOther _ (by decide) (setSame _ h))
theorem put3_1 {w:World} {b:Nat} {u:Value} (r s t:Value) (h:w.cell? ⟨b,1,none⟩=some u):(((w.setCell ⟨b,0,none⟩ r).setCell ⟨b,1,none⟩ s).setCell ⟨b,2,none⟩ t).cell? ⟨b,1,none⟩=some s:=setOther _ (by decide) (setSame _ (setOther _ (by decide) h))
theorem put3_2 {w:World} {b:Nat} {u:Value} (r s t:Value) (h:w.cell? ⟨b,2,none⟩=some u):(((w.setCell ⟨b,0,none⟩ r).setCell ⟨b,1,none⟩ s).setCell ⟨b,2,none⟩ t).cell? ⟨b,2,none⟩=some t:=setSame _ (setOther _ (by decide) (setOther _ (by decide) h))
theorem chg3 (b:Nat) (w:World) (r s t:Value):Chg [b] w (((w.setCell ⟨b,0,none⟩ r).setCell ⟨b,1,none⟩ s).setCell ⟨b,2,none⟩ t):=((store_chg _).trans' (store_chg _)).trans' (store_chg _)
def OddB (n:Int) (e:Ending):Prop:=∃ b:Bool,e = .returned (.bool b)∧(9000<=n->b=false)
theorem odd_any2 (rb:Nat) (fq:List Nat) (N n:Int) (hn:1<=n) (hn':n<=1000000) (hN:N<=1000000000) (w:World) (h:RdAt w rb fq N) :
 Calls Try.prog 73 #[.pointer (some ⟨rb,0,none⟩),.int .i64 n] w fun e w'=>OddB n e∧RdAt w' rb fq (N+1)∧Chg [rb] w w':=by
 have H:=Lib.hid h;clear h;by_cases h9:n<9000
 ·go_enter Try.func73,Try.ntmps73
  go_wp2_with fail
  refine (pick_any rb fq N n hn hn' hN _ H.out).mono ?_;rintro e w' ⟨x,rfl,x0,x1,h1,h2⟩;have H1:=Lib.hid h1;have H2:=Lib.hid h2;clear h1 h2;go_wp2;go_ret;exact ⟨⟨_,rfl,fun h=>absurd h (by omega)⟩,H1.out,H2.out⟩
 ·go_enter Try.func73,Try.ntmps73
  go_wp2;go_ret;exact ⟨⟨_,rfl,fun _=>rfl⟩,H.out.mono (by omega),Chg.refl _ _⟩
end Go.Proofs.Ytmcjklicepaiaaa
namespace Go.Proofs.Ytmcjklicepaiaaa
open Go.RowKit
end Go.Proofs.Ytmcjklicepaiaaa
