/-
 Texts of this claim laid together: TH THop.
-/
import Derived.Test.YtmcjklicepaiaaaPk22
import Derived.ArgAppend
import Derived.Deep.Upon
import Derived.Deep.MidRow
set_option linter.unusedVariables false
set_option linter.unusedSimpArgs false
namespace Go.Proofs.Ytmcjklicepaiaaa
open Go.RowKit Go.WideShapes
structure Bl where
 k:Nat
 lo:Nat
 m:Nat
 M:Nat
abbrev Tab:=Nat->Option Bl
def kK:Nat->Nat
 | 2=>7
 | 3=>5
 | 5=>3
 | 6=>3
 | _=>1
theorem kK_pos (k:Nat):0<kK k:=by unfold kK;split<;>omega
def Fz (L:List Nat) (T:Tab) (w:World) (fp:List Nat):Prop:=∀ b,b∈fp->T b=none∧b∉L∧b<w.heap.size
def SlT (T:Tab) (k:Nat) (a:Option Addr) (n:Nat):Prop:=n=0∨∃ b o x,a=some ⟨b,x.lo+o*kK k,none⟩∧T b=some x∧x.k=k∧o+n<=x.m
def SlA (T:Tab) (k:Nat) (a:Option Addr) (n cap:Nat):Prop:=n<=cap∧cap<=maxLen∧((a=none∧n=0∧cap=0)∨∃ b o x,a=some ⟨b,x.lo+o*kK k,none⟩∧T b=some x∧x.k=k∧o+n<=x.m∧(o+cap)*kK k<=x.M)
theorem SlA.t {T:Tab} {k:Nat} {a:Option Addr} {n cap:Nat} (h:SlA T k a n cap):SlT T k a n:=by
 obtain ⟨_,_,⟨_,rfl,_⟩|⟨b,o,x,h1,h2,h3,h4,_⟩⟩:=h
 ·exact .inl rfl
 ·exact .inr ⟨b,o,x,h1,h2,h3,h4⟩
theorem SlA.take {T:Tab} {k:Nat} {a:Option Addr} {n cap m:Nat} (h:SlA T k a n cap) (hm:m<=n):SlA T k a m cap:=by
 obtain ⟨h1,h2,⟨rfl,rfl,rfl⟩|⟨b,o,x,e,h3,h4,h5,h6⟩⟩:=h
 ·exact ⟨by omega,h2,.inl ⟨rfl,by omega,rfl⟩⟩
 ·exact ⟨by omega,h2,.inr ⟨b,o,x,e,h3,h4,by omega,h6⟩⟩
theorem SlT.take {T:Tab} {k:Nat} {a:Option Addr} {n m:Nat} (h:SlT T k a n) (hm:m<=n):SlT T k a m:=by
 rcases h with rfl|⟨b,o,x,e,h3,h4,h5⟩
 ·exact .inl (by omega)
 ·exact .inr ⟨b,o,x,e,h3,h4,by omega⟩
theorem SlA.nil (T:Tab) (k:Nat):SlA T k none 0 0:=⟨Nat.le_refl _,Nat.zero_le _,.inl ⟨rfl,rfl,rfl⟩⟩
def reqFit (x:Req):Prop:=0<=x.id∧x.id<=1∧(adrOk x.addr x.many x.wrap=true->x.kind≠1->x.kind≠3->(x.data.length:Int)=x.many∧(x.lanes.length:Int)=x.many)
def jobFine (x:Job):Prop:=0<=x.who∧x.who<=2∧0<=x.n∧x.n<=1000000∧x.rsp.data.length<=4
structure Gd where
 ok:Req->Prop
 cap:Nat
def gFit:Gd:=⟨reqFit,12⟩
def gAny:Gd:=⟨fun _=>True,13⟩
variable {G:Gd} {L:List Nat} {T T' T'':Tab} {w w' w'':World}
def UnitOk (G:Gd) (L:List Nat) (T:Tab) (w:World) (k:Nat) (cs:List Value):Prop :=
 match k with
 | 1=>∃ z:Int,cs=[.int .i64 z]
 | 2=>∃ (x:Req) (fp:List Nat),reqR w x cs fp∧G.ok x∧Fz L T w fp
 | 3=>∃ (x:Job) (fp:List Nat),jobR w x cs fp∧jobFine x∧Fz L T w fp
 | 4=>∃ (a:Option Addr) (n cap:Nat),cs=[.slice a n cap]∧SlA T 2 a n cap∧n<=G.cap
 | 5=>∃ a b c:Int,cs=[.int .i64 a,.int .i64 b,.int .i64 c]∧0<=b∧b<=2
 | 6=>∃ a b c:Int,cs=[.int .i64 a,.int .i64 b,.int .i64 c]
 | _=>False
def Ext (T T':Tab):Prop:=∀ b x,T b=some x->∃ m,x.m<=m∧T' b=some ⟨x.k,x.lo,m,x.M⟩
theorem Ext.refl (T:Tab):Ext T T:=fun b x h=>⟨x.m,Nat.le_refl _,h⟩
theorem Ext.trans (h:Ext T T') (g:Ext T' T''):Ext T T'':=fun b x e=>by
 obtain ⟨m,hm,e1⟩:=h b x e;obtain ⟨m',hm',e2⟩:=g b _ e1;exact ⟨m',Nat.le_trans hm hm',e2⟩
theorem SlT.ext {k:Nat} {a:Option Addr} {n:Nat} (h:SlT T k a n) (g:Ext T T'):SlT T' k a n:=by
 rcases h with rfl|⟨b,o,x,e,h1,h2,h3⟩
 ·exact .inl rfl
 ·obtain ⟨m,hm,e1⟩:=g b x h1;exact .inr ⟨b,o,⟨x.k,x.lo,m,x.M⟩,e,e1,h2,Nat.le_trans h3 hm⟩
theorem SlA.ext {k:Nat} {a:Option Addr} {n cap:Nat} (h:SlA T k a n cap) (g:Ext T T'):SlA T' k a n cap:=by
 obtain ⟨h1,h2,⟨rfl,rfl,rfl⟩|⟨b,o,x,e,h3,h4,h5,h6⟩⟩:=h
 ·exact ⟨h1,h2,.inl ⟨rfl,rfl,rfl⟩⟩
 ·obtain ⟨m,hm,e1⟩:=g b x h3;exact ⟨h1,h2,.inr ⟨b,o,⟨x.k,x.lo,m,x.M⟩,e,e1,h4,Nat.le_trans h5 hm,h6⟩⟩
structure Step (fq:List Nat) (T:Tab) (w:World) (T':Tab) (w':World):Prop where
 os:w'.os=w.os
 tape:w'.tape=w.tape
 output:w'.output=w.output
 size:w.heap.size<=w'.heap.size
 block:∀ b,b<w.heap.size->b∉fq->T b=none->w'.heap[b]?=w.heap[b]?
 ext:Ext T T'
 fresh:∀ b,T b=none->b<w.heap.size->T' b=none
theorem Step.refl (fq:List Nat) (T:Tab) (w:World):Step fq T w T w:=⟨rfl,rfl,rfl,Nat.le_refl _,fun _ _ _ _=>rfl,Ext.refl T,fun _ h _=>h⟩
theorem Step.trans {fq:List Nat} (h:Step fq T w T' w') (g:Step fq T' w' T'' w''):Step fq T w T'' w'' :=
 ⟨g.os.trans h.os,g.tape.trans h.tape,g.output.trans h.output,Nat.le_trans h.size g.size,fun b hb hn ht=>(g.block b (Nat.lt_of_lt_of_le hb h.size) hn (h.fresh b ht hb)).trans (h.block b hb hn ht),h.ext.trans g.ext,
  fun b ht hb=>g.fresh b (h.fresh b ht hb) (Nat.lt_of_lt_of_le hb h.size)⟩
theorem Step.mono {fp fq:List Nat} (h:Step fp T w T' w') (hs:∀ b,b∈fp->b∈fq):Step fq T w T' w':=⟨h.os,h.tape,h.output,h.size,fun b hb hn=>h.block b hb fun hm=>hn (hs b hm),h.ext,h.fresh⟩
theorem Step.of_chg {fq:List Nat} (h:Chg fq w w'):Step fq T w T w':=⟨h.os,h.tape,h.output,h.size,fun b hb hn _=>h.block b hb hn,Ext.refl T,fun _ h _=>h⟩
theorem Step.of_below (fq:List Nat) (h:Below w.heap.size w w'):Step fq T w T w':=Step.of_chg (h.chg fq)
theorem Step.same {fq fp:List Nat} (h:Step fq T w T' w') (hp:∀ b,b∈fp->b<w.heap.size∧b∉fq∧T b=none):Same fp w w':=fun b hb=>h.block b (hp b hb).1 (hp b hb).2.1 (hp b hb).2.2
theorem Step.cell {fq:List Nat} (h:Step fq T w T' w') {b o:Nat} {v:Value} (hc:w.cell? ⟨b,o,none⟩=some v) (hn:b∉fq) (ht:T b=none):w'.cell? ⟨b,o,none⟩=some v :=
 (World.cell?_of_block (h.block b (block_of_cell hc) hn ht)).trans hc
theorem Fz.step {fq fp:List Nat} (h:Fz L T w fp) (s:Step fq T w T' w'):Fz L T' w' fp:=fun b hb=>by
 obtain ⟨h1,h2,h3⟩:=h b hb;exact ⟨s.fresh b h1 h3,h2,Nat.lt_of_lt_of_le h3 s.size⟩
theorem Fz.closed {L' fp:List Nat} (h:Fz L T w fp) (hs:∀ b,b∈L'->b∈L):Fz L' T w fp:=fun d hd=>⟨(h d hd).1,fun hm=>(h d hd).2.1 (hs d hm),(h d hd).2.2⟩
theorem Fz.same {fq fp:List Nat} (h:Fz L T w fp) (s:Step fq T w T' w') (hq:∀ b,b∈fq->b∈L):Same fp w w':=fun b hb=>by
 obtain ⟨h1,h2,h3⟩:=h b hb;exact s.block b h3 (fun hm=>h2 (hq b hm)) h1
theorem Fz.app {fp fq:List Nat} (h:Fz L T w fp) (g:Fz L T w fq):Fz L T w (fp++fq):=fun b hb=>(List.mem_append.1 hb).elim (h b) (g b)
theorem Fz.nil (L:List Nat) (T:Tab) (w:World):Fz L T w []:=fun b hb=>by simp at hb
theorem Fz.sub {fp fq:List Nat} (h:Fz L T w fp) (hs:∀ b,b∈fq->b∈fp):Fz L T w fq:=fun b hb=>h b (hs b hb)
theorem UnitOk.step {k:Nat} {cs:List Value} {fq:List Nat} (h:UnitOk G L T w k cs) (s:Step fq T w T' w') (hq:∀ b,b∈fq->b∈L):UnitOk G L T' w' k cs:=by
 unfold UnitOk at h ⊢
 split at h
 ·exact h
 ·obtain ⟨x,fp,hR,hG,hF⟩:=h;exact ⟨x,fp,reqR_fits.same hR (hF.same s hq) s.size,hG,hF.step s⟩
 ·obtain ⟨x,fp,hR,hG,hF⟩:=h;exact ⟨x,fp,jobR_fits.same hR (hF.same s hq) s.size,hG,hF.step s⟩
 ·obtain ⟨a,n,cap,rfl,hA,hn⟩:=h;exact ⟨a,n,cap,rfl,hA.ext s.ext,hn⟩
 ·exact h
 ·exact h
 ·exact h
structure TH (G:Gd) (L:List Nat) (T:Tab) (w:World):Prop where
 lt:∀ b x,T b=some x->b<w.heap.size
 rd:∀ c,c∈L->T c=none
 old:∀ c,c∈L->c<w.heap.size
 free:∀ b x,T b=some x->∀ o,w.frozen? ⟨b,o,none⟩=false
 there:∀ b x,T b=some x->∀ j,j<x.M->(w.cell? ⟨b,x.lo+j,none⟩).isSome=true
 fit:∀ b x,T b=some x->x.m*kK x.k<=x.M
 unit:∀ b x,T b=some x->∀ i,i<x.m->∃ cs,cs.length=kK x.k∧UnitOk G L T w x.k cs∧∀ j (hj:j<cs.length),w.cell? ⟨b,x.lo+i*kK x.k+j,none⟩=some cs[j]
theorem TH.empty (G:Gd) (L:List Nat) (w:World) (ho:∀ c,c∈L->c<w.heap.size):TH G L (fun _=>Option.none) w:=⟨fun _ _ h=>by simp at h,fun _ _=>rfl,ho,fun _ _ h=>by simp at h,fun _ _ h=>by simp at h,fun _ _ h=>by simp at h,fun _ _ h=>by simp at h⟩
theorem TH.weaken {G':Gd} (h:TH G L T w) (hG:∀ x,G.ok x->G'.ok x) (hcp:G.cap<=G'.cap):TH G' L T w :=
 ⟨h.lt,h.rd,h.old,h.free,h.there,h.fit,fun b x e i hi=>by
  obtain ⟨cs,h1,h2,h3⟩:=h.unit b x e i hi;refine ⟨cs,h1,?_,h3⟩;unfold UnitOk at h2 ⊢
  split at h2
  ·exact h2
  ·obtain ⟨x,fp,hR,hg,hF⟩:=h2;exact ⟨x,fp,hR,hG x hg,hF⟩
  ·exact h2
  ·obtain ⟨a,n,cap,hR,hA,hn⟩:=h2;exact ⟨a,n,cap,hR,hA,Nat.le_trans hn hcp⟩
  ·exact h2
  ·exact h2
  ·exact h2⟩
theorem TH.chg {fq:List Nat} (h:TH G L T w) (hc:Chg fq w w') (hq:∀ b,b∈fq->b∈L):TH G L T w':=by
 have hs:∀ b x,T b=some x->w'.heap[b]?=w.heap[b]?:=fun b x e=>hc.block b (h.lt b x e) (fun hm=>by rw [h.rd b (hq b hm)] at e;cases e);refine ⟨fun b x e=>Nat.lt_of_lt_of_le (h.lt b x e) hc.size,h.rd,fun c hm=>Nat.lt_of_lt_of_le (h.old c hm) hc.size,fun b x e o=>(World.frozen?_of_block (hs b x e)).trans (h.free b x e o),fun b x e j hj=>?_,h.fit,fun b x e i hi=>?_⟩
 ·rw [World.cell?_of_block (hs b x e)];exact h.there b x e j hj
 ·obtain ⟨cs,h1,h2,h3⟩:=h.unit b x e i hi;exact ⟨cs,h1,h2.step (Step.of_chg hc) hq,fun j hj=>(World.cell?_of_block (hs b x e)).trans (h3 j hj)⟩
theorem TH.below (h:TH G L T w) (hb:Below w.heap.size w w'):TH G L T w':=h.chg (hb.chg []) (fun b hb=>by simp at hb)
theorem TH.opened {b:Nat} (h:TH G L T w) (hb:Below w.heap.size w w') (hl:w.heap.size<=b) (hl':b<w'.heap.size):TH G (b::L) T w':=by
 have h':=h.below hb;refine ⟨h'.lt,fun c hc=>?_,fun c hc=>?_,h'.free,h'.there,h'.fit,fun c x e i hi=>?_⟩
 ·rcases List.mem_cons.1 hc with rfl|hc
  ·cases e:T c with
   | none=>rfl
   | some x=>have:=h.lt c x e;omega
  ·exact h.rd c hc
 ·rcases List.mem_cons.1 hc with rfl|hc
  ·exact hl'
  ·exact h'.old c hc
 ·obtain ⟨cs,h1,h2,h3⟩:=h.unit c x e i hi;obtain ⟨cs',h1',h2',h3'⟩:=h'.unit c x e i hi;have hF:∀ fp,Fz L T w fp->Fz (b::L) T w' fp:=fun fp hf d hd=>by
   obtain ⟨g1,g2,g3⟩:=hf d hd;refine ⟨g1,?_,Nat.lt_of_lt_of_le g3 hb.size⟩;simp only [List.mem_cons,not_or];exact ⟨by omega,g2⟩
  refine ⟨cs,h1,?_,fun j hj=>(World.cell?_of_block (hb.block c (h.lt c x e))).trans (h3 j hj)⟩;unfold UnitOk at h2 ⊢
  split at h2
  ·exact h2
  ·obtain ⟨y,fp,hR,hg,hf⟩:=h2;exact ⟨y,fp,reqR_fits.below hR hb,hg,hF fp hf⟩
  ·obtain ⟨y,fp,hR,hg,hf⟩:=h2;exact ⟨y,fp,jobR_fits.below hR hb,hg,hF fp hf⟩
  ·exact h2
  ·exact h2
  ·exact h2
  ·exact h2
theorem TH.opens {bs:List Nat} (h:TH G L T w) (hb:Below w.heap.size w w') (hl:∀ b,b∈bs->w.heap.size<=b) (hl':∀ b,b∈bs->b<w'.heap.size):TH G (bs++L) T w':=by
 have h':=h.below hb;refine ⟨h'.lt,fun c hc=>?_,fun c hc=>?_,h'.free,h'.there,h'.fit,fun c x e i hi=>?_⟩
 ·rcases List.mem_append.1 hc with hc|hc
  ·cases e:T c with
   | none=>rfl
   | some x=>have:=h.lt c x e;have:=hl c hc;omega
  ·exact h.rd c hc
 ·rcases List.mem_append.1 hc with hc|hc
  ·exact hl' c hc
  ·exact h'.old c hc
 ·obtain ⟨cs,h1,h2,h3⟩:=h.unit c x e i hi;obtain ⟨cs',h1',h2',h3'⟩:=h'.unit c x e i hi;have hF:∀ fp,Fz L T w fp->Fz (bs++L) T w' fp:=fun fp hf d hd=>by
   obtain ⟨g1,g2,g3⟩:=hf d hd;refine ⟨g1,?_,Nat.lt_of_lt_of_le g3 hb.size⟩;simp only [List.mem_append,not_or];exact ⟨fun hm=>by have:=hl d hm;omega,g2⟩
  refine ⟨cs,h1,?_,fun j hj=>(World.cell?_of_block (hb.block c (h.lt c x e))).trans (h3 j hj)⟩;unfold UnitOk at h2 ⊢
  split at h2
  ·exact h2
  ·obtain ⟨y,fp,hR,hg,hf⟩:=h2;exact ⟨y,fp,reqR_fits.below hR hb,hg,hF fp hf⟩
  ·obtain ⟨y,fp,hR,hg,hf⟩:=h2;exact ⟨y,fp,jobR_fits.below hR hb,hg,hF fp hf⟩
  ·exact h2
  ·exact h2
  ·exact h2
  ·exact h2
theorem TH.closed {L':List Nat} (h:TH G L T w) (hs:∀ b,b∈L'->b∈L):TH G L' T w:=by
 refine ⟨h.lt,fun c hc=>h.rd c (hs c hc),fun c hc=>h.old c (hs c hc),h.free,h.there,h.fit,fun c x e i hi=>?_⟩;obtain ⟨cs,h1,h2,h3⟩:=h.unit c x e i hi;have hF:∀ fp,Fz L T w fp->Fz L' T w fp:=fun fp hf d hd=>⟨(hf d hd).1,fun hm=>(hf d hd).2.1 (hs d hm),(hf d hd).2.2⟩;refine ⟨cs,h1,?_,h3⟩;unfold UnitOk at h2 ⊢
 split at h2
 ·exact h2
 ·obtain ⟨y,fp,hR,hg,hf⟩:=h2;exact ⟨y,fp,hR,hg,hF fp hf⟩
 ·obtain ⟨y,fp,hR,hg,hf⟩:=h2;exact ⟨y,fp,hR,hg,hF fp hf⟩
 ·exact h2
 ·exact h2
 ·exact h2
 ·exact h2
def Tab.put (T:Tab) (b:Nat) (x:Bl):Tab:=fun c=>if c=b then some x else T c
theorem Tab.put_self (T:Tab) (b:Nat) (x:Bl):T.put b x b=some x:=by simp [Tab.put]
theorem Tab.put_other (T:Tab) {b c:Nat} (x:Bl) (h:c≠b):T.put b x c=T c:=by simp [Tab.put,h]
theorem setCells_size (b:Nat):∀ (vs:List Value) (o:Nat) (w:World),(w.setCells b o vs).heap.size=w.heap.size
 | [],_,_=>rfl
 | v::r,o,w=>by rw [World.setCells,setCells_size b r];simp
theorem setCells_tape (b:Nat):∀ (vs:List Value) (o:Nat) (w:World),(w.setCells b o vs).tape=w.tape
 | [],_,_=>rfl
 | v::r,o,w=>by rw [World.setCells,setCells_tape b r];rfl
theorem TH.put {b q:Nat} {x:Bl} {cs:List Value} (h:TH G L T w) (hb:T b=some x) (hq:q<=x.m) (hl:cs.length=kK x.k) (hU:UnitOk G L T w x.k cs) (hM:(q+1)*kK x.k<=x.M) :
 let T':=T.put b ⟨x.k,x.lo,max x.m (q+1),x.M⟩
 TH G L T' (w.setCells b (x.lo+q*kK x.k) cs)∧Step [] T w T' (w.setCells b (x.lo+q*kK x.k) cs):=by
 intro T';have hbl:=h.lt b x hb;have hsz:(w.setCells b (x.lo+q*kK x.k) cs).heap.size=w.heap.size:=setCells_size _ _ _ _;have hS:Step [] T w T' (w.setCells b (x.lo+q*kK x.k) cs):=by
  refine ⟨World.os_setCells _ _ _ _,setCells_tape _ _ _ _,World.output_setCells _ _ _ _,by omega,fun c hc _ ht=>World.heap_setCells_other _ _ _ _ hc (fun e=>by subst e;rw [hb] at ht;cases ht),fun c y hc=>?_,fun c hc _=>?_⟩
  ·by_cases e:c=b
   ·subst e;rw [hb] at hc;cases hc;exact ⟨_,Nat.le_max_left _ _,Tab.put_self ..⟩
   ·exact ⟨y.m,Nat.le_refl _,(Tab.put_other _ _ e).trans hc⟩
  ·have e:c≠b:=fun e=>by subst e;rw [hb] at hc;cases hc
   exact (Tab.put_other _ _ e).trans hc
 have hso:∀ c,c≠b->c<w.heap.size->(w.setCells b (x.lo+q*kK x.k) cs).heap[c]?=w.heap[c]?:=fun c hc hl=>World.heap_setCells_other _ _ _ _ hl hc;have hthere:∀ j,j<cs.length->(w.cell? ⟨b,x.lo+q*kK x.k+j,none⟩).isSome=true:=fun j hj=>by
  have:=h.there b x hb (q*kK x.k+j) (by rw [Nat.succ_mul] at hM;omega)
  rwa [<- Nat.add_assoc] at this
 refine ⟨⟨fun c y hc=>?_,fun c hm=>?_,fun c hm=>by rw [hsz];exact h.old c hm,fun c y hc o=>?_,fun c y hc j hj=>?_,fun c y hc=>?_,fun c y hc i hi=>?_⟩,hS⟩
 ·by_cases e:c=b
  ·subst e;omega
  ·rw [hsz];exact h.lt c y ((Tab.put_other _ _ e).symm.trans hc)
 ·have e:c≠b:=fun e=>by subst e;have:=h.rd c hm;rw [hb] at this;cases this
  exact (Tab.put_other _ _ e).trans (h.rd c hm)
 ·rw [World.frozen?_setCells];by_cases e:c=b
  ·subst e;exact h.free c x hb o
  ·exact h.free c y ((Tab.put_other _ _ e).symm.trans hc) o
 ·have key:∀ z:Bl,T c=some z->z.M=y.M->z.lo=y.lo->((w.setCells b (x.lo+q*kK x.k) cs).cell? ⟨c,y.lo+j,none⟩).isSome=true:=fun z hz hM' hlo=>World.isSome_setCells b cs _ w _ (by rw [<- hlo];exact h.there c z hz j (by omega));by_cases e:c=b
  ·subst e;rw [show T' c=_ from Tab.put_self ..] at hc;cases hc;exact key x hb rfl rfl
  ·exact key y ((Tab.put_other _ _ e).symm.trans hc) rfl rfl
 ·by_cases e:c=b
  ·subst e;rw [show T' c=_ from Tab.put_self ..] at hc;cases hc;have:=h.fit c x hb;show max x.m (q+1)*kK x.k<=x.M
   rcases Nat.le_total x.m (q+1) with hle|hle
   ·rw [Nat.max_eq_right hle];exact hM
   ·rw [Nat.max_eq_left hle];exact this
  ·exact h.fit c y ((Tab.put_other _ _ e).symm.trans hc)
 ·by_cases e:c=b
  ·subst e;rw [show T' c=_ from Tab.put_self ..] at hc;cases hc;by_cases hiq:i=q
   ·subst hiq;exact ⟨cs,hl,hU.step hS (by simp),fun j hj=>World.cell?_setCells_in c cs _ w hthere j hj⟩
   ·have hi':i<max x.m (q+1):=hi
    have him : i < x.m := by rcases Nat.le_total x.m (q + 1) with hle | hle
                             · rw [Nat.max_eq_right hle] at hi'; omega
                             ·rw [Nat.max_eq_left hle] at hi';exact hi'
    obtain ⟨ds,h1,h2,h3⟩:=h.unit c x hb i him;refine ⟨ds,h1,h2.step hS (by simp),fun j hj=>?_⟩;rw [<- h3 j hj];refine World.cell?_setCells_out c cs _ w _ (fun _ _=>?_);show x.lo+i*kK x.k+j<x.lo+q*kK x.k∨x.lo+q*kK x.k+cs.length<=x.lo+i*kK x.k+j
    rcases Nat.lt_or_ge i q with hlt|hge
    ·have:=Nat.mul_le_mul_right (kK x.k) (show i+1<=q by omega);rw [Nat.succ_mul] at this;omega
    ·have:=Nat.mul_le_mul_right (kK x.k) (show q+1<=i by omega);rw [Nat.succ_mul] at this;omega
  ·have hc':=(Tab.put_other T _ e).symm.trans hc;obtain ⟨ds,h1,h2,h3⟩:=h.unit c y hc' i hi;exact ⟨ds,h1,h2.step hS (by simp),fun j hj=>(World.cell?_of_block (hso c e (h.lt c y hc'))).trans (h3 j hj)⟩
theorem TH.adopt {fq:List Nat} {b:Nat} {x:Bl} (h:TH G L T w) (hc:Chg fq w w') (hq:∀ b,b∈fq->b∈L) (hb:w.heap.size<=b) (hb':b<w'.heap.size) (hf:∀ o,w'.frozen? ⟨b,o,none⟩=false)
 (hth:∀ j,j<x.M->(w'.cell? ⟨b,x.lo+j,none⟩).isSome=true) (hfit:x.m*kK x.k<=x.M)
 (hu:∀ i,i<x.m->∃ cs,cs.length=kK x.k∧UnitOk G L T w x.k cs∧∀ j (hj:j<cs.length),w'.cell? ⟨b,x.lo+i*kK x.k+j,none⟩=some cs[j]) :
 TH G L (T.put b x) w'∧Step fq T w (T.put b x) w':=by
 have hne:∀ c,c<w.heap.size->c≠b:=fun c hc e=>by omega
 have hS:Step fq T w (T.put b x) w':=⟨hc.os,hc.tape,hc.output,hc.size,fun c hc' hn _=>hc.block c hc' hn,fun c y hy=>⟨y.m,Nat.le_refl _,(Tab.put_other _ _ (hne c (h.lt c y hy))).trans hy⟩,fun c ht hl=>(Tab.put_other _ _ (hne c hl)).trans ht⟩;have h':=h.chg hc hq;refine ⟨⟨fun c y hy=>?_,fun c hm=>(Tab.put_other _ _ (hne c (h.old c hm))).trans (h.rd c hm),h'.old,fun c y hy=>?_,fun c y hy=>?_,fun c y hy=>?_,fun c y hy i hi=>?_⟩,hS⟩<;>by_cases e:c=b
 ·subst e;exact hb'
 ·exact h'.lt c y ((Tab.put_other _ _ e).symm.trans hy)
 ·subst e;exact hf
 ·exact h'.free c y ((Tab.put_other _ _ e).symm.trans hy)
 ·subst e;rw [Tab.put_self] at hy;cases hy;exact hth
 ·exact h'.there c y ((Tab.put_other _ _ e).symm.trans hy)
 ·subst e;rw [Tab.put_self] at hy;cases hy;exact hfit
 ·exact h'.fit c y ((Tab.put_other _ _ e).symm.trans hy)
 ·subst e;rw [Tab.put_self] at hy;cases hy;obtain ⟨cs,h1,h2,h3⟩:=hu i hi;exact ⟨cs,h1,h2.step hS hq,h3⟩
 ·have hy':=(Tab.put_other T _ e).symm.trans hy;obtain ⟨cs,h1,h2,h3⟩:=h.unit c y hy' i hi;refine ⟨cs,h1,h2.step hS hq,fun j hj=>?_⟩;obtain ⟨cs',h1',h2',h3'⟩:=h'.unit c y hy' i hi;have hblk:w'.heap[c]?=w.heap[c]?:=hc.block c (h.lt c y hy') (fun hm=>by rw [h.rd c (hq c hm)] at hy';cases hy');exact (World.cell?_of_block hblk).trans (h3 j hj)
theorem TH.lit0 (h:TH G L T w) (k:Nat) (e:TypeId):TH G L (T.put w.heap.size ⟨k,0,0,0⟩) (w.alloc (.cells #[] e))∧Step [] T w (T.put w.heap.size ⟨k,0,0,0⟩) (w.alloc (.cells #[] e))∧SlA (T.put w.heap.size ⟨k,0,0,0⟩) k (some ⟨w.heap.size,0,none⟩) 0 0:=by
 obtain ⟨h1,h2⟩:=h.adopt (x:=⟨k,0,0,0⟩) ((below_alloc w (.cells #[] e)).chg []) (by simp) (Nat.le_refl _) (by simp) (fun o=>frozen_of_row _ _ _ #[] e (heap_alloc_new w _)) (fun j hj=>by simp at hj) (by simp) (fun i hi=>by simp at hi);exact ⟨h1,h2,Nat.le_refl _,Nat.zero_le _,.inr ⟨w.heap.size,0,⟨k,0,0,0⟩,by simp,Tab.put_self ..,rfl,by simp,by simp⟩⟩
theorem TH.at' {k:Nat} {b o:Nat} {x:Bl} {n:Nat} (h:TH G L T w) (hb:T b=some x) (hk:x.k=k) (hn:o+n<=x.m) {i:Nat} (hi:i<n):∃ cs,cs.length=kK k∧UnitOk G L T w k cs∧∀ j (hj:j<cs.length),w.cell? ⟨b,x.lo+o*kK k+i*kK k+j,none⟩=some cs[j]:=by
 subst hk;obtain ⟨cs,h1,h2,h3⟩:=h.unit b x hb (o+i) (by omega);refine ⟨cs,h1,h2,fun j hj=>?_⟩;rw [<- h3 j hj,Nat.add_mul]
 congr 2
 omega
theorem SlT.reads {α:Type} {k:Nat} {R:Pr α} {Good:α->Prop} {a:Option Addr} {n cap:Nat} (h:SlT T k a n) (hT:TH G L T w) (hcap:n<=cap) (hcm:cap<=maxLen) (hU:∀ cs,cs.length=kK k->UnitOk G L T w k cs->∃ x fp,R w x cs fp∧Good x) :
 ∃ l fp,SlR (kK k) R w l (.slice a n cap) fp∧∀ x,x∈l->Good x:=by
 rcases h with rfl|⟨b,o,x,rfl,hb,hk,hn⟩
 ·exact ⟨[],[],⟨a,0,cap,rfl,rfl,hcap,hcm,.inl ⟨rfl,rfl⟩⟩,by simp⟩
 ·have main:∀ q,q<=n->∃ (l:List α) (fps:List (List Nat)),l.length=q∧fps.length=q∧(∀ x,x∈l->Good x)∧∀ i (h:i<l.length) (h':i<fps.length),∃ cs,R w l[i] cs fps[i]∧∀ j (hj:j<cs.length),w.cell? ⟨b,x.lo+o*kK k+i*kK k+j,none⟩=some cs[j]:=by
   intro q
   induction q with
   | zero=>exact fun _=>⟨[],[],rfl,rfl,by simp,fun i h=>absurd h (by simp)⟩
   | succ q ih =>
    intro hq;obtain ⟨l,fps,h1,h2,h3,h4⟩:=ih (by omega);obtain ⟨cs,g1,g2,g3⟩:=hT.at' hb hk hn (show q<n by omega);obtain ⟨y,fp,hR,hy⟩:=hU cs g1 g2;refine ⟨l++[y],fps++[fp],by simp [h1],by simp [h2],fun z hz=>?_,fun i h h'=>?_⟩
    ·rcases List.mem_append.1 hz with hz|hz
     ·exact h3 z hz
     ·rw [List.mem_singleton] at hz;subst hz;exact hy
    ·by_cases hiq:i<q
     ·obtain ⟨cs',hR',hc'⟩:=h4 i (by omega) (by omega);exact ⟨cs',by rw [List.getElem_append_left (by omega),List.getElem_append_left (by omega)];exact hR',hc'⟩
     ·have hi':i=q:=by simp [h1] at h;omega
      subst hi';refine ⟨cs,?_,g3⟩;rw [List.getElem_append_right (by omega),List.getElem_append_right (by omega)];simpa [h1,h2] using hR
  obtain ⟨l,fps,h1,h2,h3,h4⟩:=main n (Nat.le_refl _);exact ⟨l,b::fps.flatten,⟨_,n,cap,rfl,h1,hcap,hcm,.inr ⟨b,_,fps,rfl,hT.lt b x hb,rfl,by omega,h4⟩⟩,h3⟩
theorem SlT.ints {a:Option Addr} {n cap:Nat} (h:SlT T 1 a n) (hT:TH G L T w) (hcap:n<=cap) (hcm:cap<=maxLen):∃ l fp,SlR 1 intR w l (.slice a n cap) fp:=by
 obtain ⟨l,fp,h1,_⟩:=h.reads (R:=intR) (Good:=fun _=>True) hT hcap hcm (fun cs _ hU=>by
  obtain ⟨z,rfl⟩:=hU;exact ⟨z,[],⟨rfl,rfl⟩,trivial⟩)
 exact ⟨l,fp,h1⟩
theorem SlT.reqs {a:Option Addr} {n cap:Nat} (h:SlT T 2 a n) (hT:TH G L T w) (hcap:n<=cap) (hcm:cap<=maxLen):∃ l fp,SlR 7 reqR w l (.slice a n cap) fp∧∀ x,x∈l->G.ok x :=
 h.reads (R:=reqR) (Good:=G.ok) hT hcap hcm (fun cs _ hU=>by
  obtain ⟨x,fp,hR,hG,_⟩:=hU;exact ⟨x,fp,hR,hG⟩)
theorem SlT.jobs {a:Option Addr} {n cap:Nat} (h:SlT T 3 a n) (hT:TH G L T w) (hcap:n<=cap) (hcm:cap<=maxLen):∃ l fp,SlR 5 jobR w l (.slice a n cap) fp∧∀ x,x∈l->jobFine x :=
 h.reads (R:=jobR) (Good:=jobFine) hT hcap hcm (fun cs _ hU=>by
  obtain ⟨x,fp,hR,hG,_⟩:=hU;exact ⟨x,fp,hR,hG⟩)
theorem SlT.progs {a:Option Addr} {n cap:Nat} (h:SlT T 4 a n) (hT:TH G L T w) (hcap:n<=cap) (hcm:cap<=maxLen):∃ l fp,SlR 1 (slR 7 reqR) w l (.slice a n cap) fp∧∀ p,p∈l->p.length<=G.cap∧∀ x,x∈p->G.ok x :=
 h.reads (R:=slR 7 reqR) (Good:=fun p=>p.length<=G.cap∧∀ x,x∈p->G.ok x) hT hcap hcm (fun cs _ hU=>by
  obtain ⟨a',n',cap',rfl,hA,hn⟩:=hU;obtain ⟨l,fp,hs,hg⟩:=hA.t.reqs hT hA.1 hA.2.1;have hs':=hs;obtain ⟨_,n'',_,e,hl,_⟩:=hs';cases e;exact ⟨l,fp,⟨_,rfl,hs⟩,by omega,hg⟩)
end Go.Proofs.Ytmcjklicepaiaaa
namespace Go.Proofs.Ytmcjklicepaiaaa
open Go.RowKit Go.WideShapes
variable {G:Gd} {rb:Nat} {L:List Nat} {T T' T'':Tab} {w w' w'':World}
theorem wpList_appendT {P:Program} {ops:Array Oper} {rest:List Oper} {o:Oper} {a:Act} {Q:Exit->Act->World->Prop} {k n cap c2:Nat} {ao:Option Addr} {A:Addr} {cs:List Value}
 (hgd:o.guard=none) (s y:Operand) (t e:TypeId) (i:TypeInfo) (z:Value) (bytes:Nat)
 (ho:o.op = .call { callee:=.builtin .append,args := #[s,y],argTypes := #[t,t] })
 (ht:P.underlying t=some (.slice e)) (hi:P.info? e=some i) (hz:i.zero=some z) (hsize:i.size=kK k) (hby:i.bytes=bytes) (hzs:z.cells.size=kK k) (hb8:bytes<=128)
 (hs:a.eval s = .slice ao n cap) (hy:a.eval y = .slice (some A) 1 c2) (hT:TH G L T w) (hA:SlA T k ao n cap) (hl:cs.length=kK k) (hU:UnitOk G L T w k cs) (hcell:∀ j (hj:j<cs.length),w.cell? (A.add j)=some cs[j]) (h1:∀ u∈cs,u.oneCell'=true) (hn:n<=2000000)
 (h:∀ ao' cap' T' w',TH G L T' w'->Step [] T w T' w'->SlA T' k ao' (n+1) cap'->wpList P ops Q rest (a.put o.dst (.slice ao' (n+1) cap')) w') :
 wpList P ops Q (o::rest) a w:=by
 have hkp:=kK_pos k;have hbb:(n+1)*bytes<=2000001*128:=Nat.mul_le_mul (by omega) hb8;have hmx:n+1<=maxLen:=by unfold maxLen;omega
 have hnews:∀ j u,cs[j]?=some u->w.cell? (A.add j)=some u:=fun j u hj=>by
  obtain ⟨hj1,hj2⟩:=List.getElem?_eq_some_iff.1 hj;rw [<- hj2];exact hcell j hj1
 have grown : ∀ (olds : List Value) (v' : Value) (w' : World), olds.length = n * kK k -> (∀ q, q < n -> ∃ ds : List Value, ds.length = kK k ∧ UnitOk G L T w k ds ∧ ∀ j (hj : j < ds.length), olds[q * kK k + j]? = some ds[j]) -> w'.ownsRow w.heap.size e (kK k) v' (n + 1) (olds ++ cs) -> w.grownBy w' none ->
     ∃ ao' cap' T', v' = .slice ao' (n + 1) cap' ∧ TH G L T' w' ∧ Step [] T w T' w' ∧ SlA T' k ao' (n + 1) cap' := by
  intro olds v' w' hlo hun hown hgr;have hbel:=below_of_grown hgr;obtain ⟨hlen,⟨_,h0⟩|⟨g,cap',cur,rfl,hb,hg,hnc,hcm,hcs,htake⟩⟩:=hown
  ·omega
  ·have hgl:g<w'.heap.size:=by
    rcases Nat.lt_or_ge g w'.heap.size with h|h
    ·exact h
    ·simp [Array.getElem?_eq_none h] at hg
   have hcur:∀ j,j<(n+1)*kK k->w'.cell? ⟨g,j,none⟩=(olds++cs)[j]?:=fun j hj=>by
    rw [cell_of_row w' g _ cur e (0,0) hg,<- htake,List.getElem?_take,if_pos hj];simp
   obtain ⟨h1', h2'⟩ := hT.adopt (w' := w') (fq := []) (b := g) (x := ⟨k, 0, n + 1, cap' * kK k⟩) (hbel.chg []) (by simp) hb hgl (fun o => frozen_of_row w' g o cur e hg) (fun j hj => by
       show (w'.cell? ⟨g, 0 + j, none⟩).isSome = true
       have hj':j<cap'*kK k:=hj;rw [cell_of_row w' g _ cur e (0,0) hg,Nat.zero_add];simp [hcs,hj']) (Nat.mul_le_mul_right _ hnc) (fun q hq=>by
       have hq':q<n+1:=hq;by_cases e':q<n
       ·obtain ⟨ds,g1,g2,g3⟩:=hun q e';refine ⟨ds,g1,g2,fun j hj=>?_⟩;have hlt:q*kK k+j<n*kK k:=by
         have:=Nat.mul_le_mul_right (kK k) (show q+1<=n by omega);rw [Nat.succ_mul] at this;omega
        show w'.cell? ⟨g,0+q*kK k+j,none⟩=_
        rw [Nat.zero_add,hcur _ (by rw [Nat.succ_mul];omega),List.getElem?_append_left (by omega)];exact g3 j hj
       ·obtain rfl:q=n:=by omega
        refine ⟨cs,hl,hU,fun j hj=>?_⟩;show w'.cell? ⟨g,0+q*kK k+j,none⟩=_
        rw [Nat.zero_add,hcur _ (by rw [Nat.succ_mul];omega),List.getElem?_append_right (by omega),hlo,Nat.add_sub_cancel_left];exact List.getElem?_eq_getElem hj)
   exact ⟨_,_,_,rfl,h1',h2',hnc,hcm,.inr ⟨g,0,_,by simp,Tab.put_self ..,rfl,by simp,by simp⟩⟩
 obtain ⟨hnc,hcm,⟨rfl,rfl,rfl⟩|⟨b,of,x,rfl,hb,hk,hnm,hM⟩⟩:=hA
 ·refine wpList_append_grows w hgd s y t ho e i z (kK k) bytes ht hi hz hsize hby hzs hkp none 0 0 [] hs (fun _=>⟨rfl,rfl⟩) (by simp) (fun b hb=>by cases hb) A 1 c2 cs hy (by omega) hnews h1 (by omega) hmx (by omega) (fun v' w' hown hgr=>?_);obtain ⟨ao',cap',T',rfl,g1,g2,g3⟩:=grown [] v' w' (by simp) (fun q hq=>absurd hq (by omega)) hown hgr;exact h ao' cap' T' w' g1 g2 g3
 ·subst hk;obtain ⟨olds,holds⟩:∃ l:List Value,l=(List.range (n*kK x.k)).map fun j=>(w.cell? ⟨b,x.lo+of*kK x.k+j,none⟩).getD (.bool false):=⟨_,rfl⟩;have hlo:olds.length=n*kK x.k:=by rw [holds];simp
  have hfit:=hT.fit b x hb;have hin:∀ j,j<n*kK x.k->(w.cell? ⟨b,x.lo+of*kK x.k+j,none⟩).isSome=true:=fun j hj=>by
   have:=hT.there b x hb (of*kK x.k+j) (by
    have:=Nat.mul_le_mul_right (kK x.k) hnm;rw [Nat.add_mul] at this;omega)
   rwa [<- Nat.add_assoc] at this
  have hval:∀ j,j<n*kK x.k->olds[j]?=w.cell? ⟨b,x.lo+of*kK x.k+j,none⟩:=fun j hj=>by
   obtain ⟨u,hu⟩:=Option.isSome_iff_exists.1 (hin j hj);rw [holds];simp [hj,hu]
  refine wpList_append_arg w hgd s y t ho e i z (kK x.k) bytes ht hi hz hsize hby hzs hkp b (x.lo+of*kK x.k) n cap olds hs hlo (fun j u hj=>?_) A 1 c2 cs hy (by omega) hnews h1 (fun hroom j hj=>?_) hmx (by omega) (fun hroom=>?_) (fun hfull v' w' hown hgr=>?_)
  ·have hj1:j<n*kK x.k:=by have:=(List.getElem?_eq_some_iff.1 hj).1;omega
   rw [<- hval j hj1];exact hj
  ·refine ⟨?_,hT.free b x hb _⟩;have:=hT.there b x hb ((of+n)*kK x.k+j) (by
    have:=Nat.mul_le_mul_right (kK x.k) (show of+n+1<=of+cap by omega);rw [Nat.succ_mul] at this;omega)
   rwa [Nat.add_mul,<- Nat.add_assoc,<- Nat.add_assoc] at this
  ·have hM':(of+n+1)*kK x.k<=x.M:=Nat.le_trans (Nat.mul_le_mul_right _ (by omega)) hM;obtain ⟨g1,g2⟩:=hT.put (q:=of+n) hb hnm hl hU hM';have e1:x.lo+of*kK x.k+n*kK x.k=x.lo+(of+n)*kK x.k:=by rw [Nat.add_mul];omega
   rw [e1];exact h _ _ _ _ g1 g2 ⟨hroom,hcm,.inr ⟨b,of,⟨x.k,x.lo,max x.m (of+n+1),x.M⟩,rfl,Tab.put_self ..,rfl,Nat.le_max_right _ _,hM⟩⟩
  ·obtain ⟨ao',cap',T',rfl,g1,g2,g3⟩:=grown olds v' w' hlo (fun q hq=>by
    obtain ⟨ds,d1,d2,d3⟩:=hT.at' hb rfl hnm hq;refine ⟨ds,d1,d2,fun j hj=>?_⟩;have hlt:q*kK x.k+j<n*kK x.k:=by
     have:=Nat.mul_le_mul_right (kK x.k) (show q+1<=n by omega);rw [Nat.succ_mul] at this;omega
    rw [hval _ hlt,<- d3 j hj]
    congr 2
    omega) hown hgr
   exact h ao' cap' T' w' g1 g2 g3
theorem TH.store {k n i:Nat} {b off:Nat} {v:Value} (h:TH G L T w) (hS:SlT T k (some ⟨b,off,none⟩) n) (hi:i<n) (hk:kK k=1) (hU:UnitOk G L T w k [v]) :
 (∃ u,w.cell? ⟨b,off+i,none⟩=some u∧UnitOk G L T w k [u])∧w.frozen? ⟨b,off+i,none⟩=false∧∃ T',TH G L T' (w.setCell ⟨b,off+i,none⟩ v)∧Step [] T w T' (w.setCell ⟨b,off+i,none⟩ v):=by
 rcases hS with rfl|⟨b',o,x,e,hb,rfl,hn⟩
 ·omega
 ·cases e;obtain ⟨cs,h1,h2,h3⟩:=h.at' hb rfl hn hi;rw [hk] at h1;obtain ⟨u,rfl⟩:∃ u,cs=[u]:=by
   cases cs with
   | nil=>simp at h1
   | cons u r=>cases r with
    | nil=>exact ⟨u,rfl⟩
    | cons _ _=>simp at h1
  have h30:=h3 0 (by simp);simp only [Nat.add_zero,List.getElem_cons_zero,hk,Nat.mul_one] at h30;have hM:(o+i+1)*kK x.k<=x.M:=Nat.le_trans (Nat.mul_le_mul_right _ (by omega)) (h.fit b x hb);obtain ⟨g1,g2⟩:=h.put (q:=o+i) (cs:=[v]) hb (by omega) (by rw [hk];rfl) hU hM;rw [hk,Nat.mul_one] at g1 g2;rw [hk,Nat.mul_one];rw [<- Nat.add_assoc] at g1 g2;exact ⟨⟨u,h30,h2⟩,h.free b x hb _,_,g1,g2⟩
theorem RdAt.step {fq fp:List Nat} {N:Int} (h:RdAt w rb fq N) (s:Step fp T w T' w') (h1:T rb=none) (h2:∀ b,b∈fq->T b=none) (h3:fp=[]):RdAt w' rb fq N:=by
 subst h3;have hlt:=h.lt;obtain ⟨l,v,p,h0,hb,hn,hl,hp,p0,p1,hf⟩:=h;have e:w'.heap[rb]?=w.heap[rb]?:=s.block rb hlt (by simp) h1;exact ⟨l,v,p,s.cell h0 (by simp) h1,hb.same byteR_fits (fun b hbb=>s.block b (hb.lt byteR_fits b hbb) (by simp) (h2 b hbb)) s.size,hn,hl,s.cell hp (by simp) h1,p0,p1,(World.frozen?_of_block e).trans hf⟩
theorem RdAt.old {fq:List Nat} {N:Int} (h:RdAt w rb fq N):∀ b,b∈fq->b<w.heap.size:=by
 obtain ⟨l,v,p,h0,hb,_⟩:=h;exact hb.lt byteR_fits
theorem Fz.new {fp fq:List Nat} (h:TH G L T w) (hc:Chg fq w w') (hn:∀ b,b∈fp->w.heap.size<=b) (hlt:∀ b,b∈fp->b<w'.heap.size):Fz L T w' fp:=fun b hb=>by
 refine ⟨?_,fun hm=>by have:=hn b hb;have:=h.old b hm;omega,hlt b hb⟩;cases e:T b with
 | none=>rfl
 | some x=>have:=h.lt b x e;have:=hn b hb;omega
theorem TH.fresh (h:TH G L T w) {b:Nat} (hb:w.heap.size<=b):T b=none:=by
 cases e:T b with
 | none=>rfl
 | some x=>have:=h.lt b x e;omega
end Go.Proofs.Ytmcjklicepaiaaa
