/-
 Texts of this claim laid together: Do3.
-/
import Derived.Test.YtmcjklicepaiaaaPk26
set_option linter.unusedVariables false
set_option linter.unusedSimpArgs false
namespace Go.Proofs.Ytmcjklicepaiaaa
def tbl4Do6:List (List Nat):=[[],[],[0],[0,1,2]]
def tbl4Do9:List (List Nat):=[[],[],[0],[0,1,2]]
def tbl4Do26:List (List Nat):=[[],[],[0],[0,1,2]]
def tbl4Do21:List (List Nat):=[[],[0],[],[0,1,2],[0,1,2,3],[],[5],[0,1,2,3,4,5,6]]
def tbl4Do22:List (List Nat):=[[],[],[0],[0,1,2]]
open Go.RowKit Go.ChangeShapes Go.WideShapes
def RoomAt (b n:Nat) (w:World):Prop:=b<w.heap.size∧(∀ j,j<n->∃ u,w.cell? ⟨b,j,none⟩=some u)∧∀ o,w.frozen? ⟨b,o,none⟩=false
theorem RoomAt.chg {b n:Nat} {w w':World} {fp:List Nat} (h:RoomAt b n w) (hc:Chg fp w w') (hn:b∉fp):RoomAt b n w' :=
 ⟨Nat.lt_of_lt_of_le h.1 hc.size,fun j hj=>(h.2.1 j hj).imp fun u e=>keep_cell_chg hc e hn,fun o=>(World.frozen?_of_block (hc.block b h.1 hn)).trans (h.2.2 o)⟩
theorem RoomAt.below {b n:Nat} {w w':World} (h:RoomAt b n w) (hb:Below w.heap.size w w'):RoomAt b n w':=h.chg (hb.chg []) (by simp)
theorem RoomAt.set {b n j:Nat} {w:World} {u:Value} (h:RoomAt b n w) (hj:j<n):RoomAt b n (w.setCell ⟨b,j,none⟩ u):=by
 refine ⟨by simpa using h.1,fun i hi=>?_,fun o=>(World.frozen?_setCell ..).trans (h.2.2 o)⟩;obtain ⟨x,hx⟩:=h.2.1 i hi;by_cases e:j=i
 ·subst e;exact ⟨u,World.cell?_setCell_same _ _ _ hx⟩
 ·exact ⟨x,(World.cell?_setCell_other _ _ _ _ (by simp [e])).trans hx⟩
def FCs (b:Nat) (vs:List Value):Fact:=fun _ w=>∀ j (h:j<vs.length),w.cell? ⟨b,j,none⟩=some vs[j]
theorem stCs (b:Nat) (vs:List Value):Stable [] (FCs b vs):=fun _ _ _ h hc j hj=>keep_cell_chg hc (h j hj) (by simp)
theorem FCs.two {b:Nat} {w:World} {v x y u0 u1:Value} (h0:w.cell? ⟨b,0,none⟩=some u0) (h1:w.cell? ⟨b,1,none⟩=some u1):FCs b [x,y] v ((w.setCell ⟨b,0,none⟩ x).setCell ⟨b,1,none⟩ y):=fun j hj=>by
 have:j=0∨j=1:=by simp at hj;omega
 rcases this with rfl|rfl
 ·exact put2a_0 _ _ h0
 ·exact put2a_1 _ _ h1
theorem fin3 {w:World} {b:Nat} {u0 u1 u2:Value} (x y z:Value) (h0:w.cell? ⟨b,0,none⟩=some u0) (h1:w.cell? ⟨b,1,none⟩=some u1) (h2:w.cell? ⟨b,2,none⟩=some u2) :
 (((w.setCell ⟨b,0,none⟩ x).setCell ⟨b,1,none⟩ y).setCell ⟨b,2,none⟩ z).cell? ⟨b,0,none⟩=some x∧(((w.setCell ⟨b,0,none⟩ x).setCell ⟨b,1,none⟩ y).setCell ⟨b,2,none⟩ z).cell? ⟨b,1,none⟩=some y ∧
  (((w.setCell ⟨b,0,none⟩ x).setCell ⟨b,1,none⟩ y).setCell ⟨b,2,none⟩ z).cell? ⟨b,2,none⟩=some z∧Chg [b] w (((w.setCell ⟨b,0,none⟩ x).setCell ⟨b,1,none⟩ y).setCell ⟨b,2,none⟩ z) :=
 ⟨(World.cell?_setCell_other _ _ _ _ (by simp)).trans (put2a_0 _ _ h0),(World.cell?_setCell_other _ _ _ _ (by simp)).trans (put2a_1 _ _ h1),World.cell?_setCell_same _ _ _ ((World.cell?_setCell_other _ _ _ _ (by simp)).trans ((World.cell?_setCell_other _ _ _ _ (by simp)).trans h2)),
  ((store_chg _).trans' (store_chg _)).trans' (store_chg _)⟩
theorem Free.app' {p q:List Nat} {w:World} (h1:Free p w) (h2:Free q w):Free (p++q) w:=fun b hb=>(List.mem_append.1 hb).elim (h1 b) (h2 b)
theorem alloc_at {w:World} {A:Array Value} {T:TypeId} {n i:Nat} {v:Value} (hn:n=w.heap.size) (h:A[i]?=some v):(w.alloc (.cells A T)).cell? ⟨n,i,none⟩=some v:=by
 subst hn;exact alloc1_new w A T i h
theorem room_alloc {w:World} {A:Array Value} {T:TypeId} {b n:Nat} (hb:b=w.heap.size) (hn:n<=A.size):RoomAt b n (w.alloc (.cells A T)):=by
 subst hb;exact ⟨by simp,fun j hj=>⟨A[j]'(by omega),alloc1_new w A T j (by simp [show j<A.size by omega])⟩,fun o=>World.frozen?_alloc_at _ _ _ _ rfl⟩
structure DoW (b:Nat) (w0:World) (l:List MR) (r:Req) (vm vw vh v0 v1:Value) (fm fw fh f0 f1:List Nat) (ms hs:List Int) (w:World):Prop where
 s0:w.cell? ⟨b,0,none⟩=some vw
 s1:w.cell? ⟨b,1,none⟩=some vh
 k0:w.cell? ⟨b+1,0,none⟩=some (.int .i64 r.id)
 k1:w.cell? ⟨b+1,1,none⟩=some (.int .i64 r.kind)
 k2:w.cell? ⟨b+1,2,none⟩=some (.int .i64 r.addr)
 k3:w.cell? ⟨b+1,3,none⟩=some (.int .i64 r.many)
 k4:w.cell? ⟨b+1,4,none⟩=some (.bool r.wrap)
 k5:w.cell? ⟨b+1,5,none⟩=some v0
 k6:w.cell? ⟨b+1,6,none⟩=some v1
 fs:∀ o,w.frozen? ⟨b,o,none⟩=false
 q2:RoomAt (b+1+1) 2 w
 q3:RoomAt (b+1+1+1) 3 w
 mp:SlR 4 mrR w l vm fm
 mem:SlR 1 intR w ms vw fw
 hol:SlR 1 intR w hs vh fh
 dat:SlR 1 intR w r.data v0 f0
 lan:SlR 1 intR w r.lanes v1 f1
 fr:Free (fw++fh) w
 chg:Chg (fw++fh) w0 w
 size:b+1+1+1+1<=w.heap.size
structure DoC (b:Nat) (w0:World) (fm fw fh f0 f1:List Nat):Prop where
 eb:b=w0.heap.size
 lw:∀ c,c∈fw++fh->c<b
 lm:∀ c,c∈fm->c<b
 l0:∀ c,c∈f0->c<b
 l1:∀ c,c∈f1->c<b
 dj:∀ c,c∈fw->c∉fh
 nm:∀ c,c∈fm->c∉fw++fh
 n0:∀ c,c∈f0->c∉fw++fh
 n1:∀ c,c∈f1->c∉fw++fh
variable {b X:Nat} {w0 w w':World} {l:List MR} {r:Req} {vm vw vh v0 v1:Value} {fm fw fh f0 f1:List Nat} {ms hs ms' hs':List Int}
theorem DoW.turn (C:DoC b w0 fm fw fh f0 f1) (h:DoW b w0 l r vm vw vh v0 v1 fm fw fh f0 f1 ms hs w) {fp:List Nat} (hc:Chg fp w w') (hp:∀ c,c∈fp->c∈fw++fh∨b+1+1+1<c) (gm:SlR 1 intR w' ms' vw fw) (gh:SlR 1 intR w' hs' vh fh) (fr:Free (fw++fh) w'):DoW b w0 l r vm vw vh v0 v1 fm fw fh f0 f1 ms' hs' w':=by
 have nb:∀ c,b<=c->c<=b+1+1+1->c∉fp:=fun c h1 h2 hm=>by
  rcases hp c hm with h3|h3
  ·have:=C.lw c h3;omega
  ·omega
 have nl:∀ fq:List Nat,(∀ c,c∈fq->c<b)->(∀ c,c∈fq->c∉fw++fh)->∀ c,c∈fq->c∉fp:=fun fq h1 h2 c hm hn=>by
  rcases hp c hn with h3|h3
  ·exact h2 c hm h3
  ·have:=h1 c hm;omega
 have n0:=nb b (Nat.le_refl _) (by omega);have n1:=nb (b+1) (by omega) (by omega);have z:=h.size;exact ⟨keep_cell_chg hc h.s0 n0,keep_cell_chg hc h.s1 n0,keep_cell_chg hc h.k0 n1,keep_cell_chg hc h.k1 n1,keep_cell_chg hc h.k2 n1,keep_cell_chg hc h.k3 n1,keep_cell_chg hc h.k4 n1,keep_cell_chg hc h.k5 n1,keep_cell_chg hc h.k6 n1,
  fun o=>(World.frozen?_of_block (hc.block b (by omega) n0)).trans (h.fs o),h.q2.chg hc (nb _ (by omega) (by omega)),h.q3.chg hc (nb _ (by omega) (by omega)),h.mp.chg mrR_fits hc (nl _ C.lm C.nm),gm,gh,h.dat.chg intR_fits hc (nl _ C.l0 C.n0),h.lan.chg intR_fits hc (nl _ C.l1 C.n1),fr,
  (h.chg.trans hc).drop (fun c hm hl=>by
   rcases List.mem_append.1 hm with hm|hm
   ·exact hm
   ·rcases hp c hm with h3|h3
    ·exact h3
    ·have:=C.eb;omega),Nat.le_trans h.size hc.size⟩
theorem DoW.far (C:DoC b w0 fm fw fh f0 f1) (h:DoW b w0 l r vm vw vh v0 v1 fm fw fh f0 f1 ms hs w) {fp:List Nat} (hc:Chg fp w w') (hp:∀ c,c∈fp->b+1+1+1<c):DoW b w0 l r vm vw vh v0 v1 fm fw fh f0 f1 ms hs w':=by
 have n:∀ c,c∈fw++fh->c∉fp:=fun c hm hn=>by have:=C.lw c hm;have:=hp c hn;omega
 have z:=h.size;exact h.turn C hc (fun c hm=>.inr (hp c hm)) (h.mem.chg intR_fits hc (fun c hm=>n c (by simp [hm]))) (h.hol.chg intR_fits hc (fun c hm=>n c (by simp [hm]))) (h.fr.chg (fun c hm=>by have:=C.lw c hm;omega) hc n)
theorem DoW.below (C:DoC b w0 fm fw fh f0 f1) (h:DoW b w0 l r vm vw vh v0 v1 fm fw fh f0 f1 ms hs w) (hb:Below w.heap.size w w'):DoW b w0 l r vm vw vh v0 v1 fm fw fh f0 f1 ms hs w':=h.far C (hb.chg []) (by simp)
theorem DoW.again (C:DoC b w0 fm fw fh f0 f1) (h:DoW b w0 l r vm vw vh v0 v1 fm fw fh f0 f1 ms hs w) {j:Nat} {u:Value} (hj:(j=0∧u=vw)∨(j=1∧u=vh)):DoW b w0 l r vm vw vh v0 v1 fm fw fh f0 f1 ms hs (w.setCell ⟨b,j,none⟩ u):=by
 have hc:Chg [b] w (w.setCell ⟨b,j,none⟩ u):=store_chg _;have n1:b+1∉[b]:=by simp
 have nl:∀ fq:List Nat,(∀ c,c∈fq->c<b)->∀ c,c∈fq->c∉[b]:=fun fq h1 c hm hn=>by
  have:=h1 c hm;simp at hn;omega
 have nw:=nl _ C.lw;have z:=h.size;have e0:(w.setCell ⟨b,j,none⟩ u).cell? ⟨b,0,none⟩=some vw:=by
  rcases hj with ⟨rfl,rfl⟩|⟨rfl,rfl⟩
  ·exact World.cell?_setCell_same _ _ _ h.s0
  ·exact (World.cell?_setCell_other _ _ _ _ (by simp)).trans h.s0
 have e1:(w.setCell ⟨b,j,none⟩ u).cell? ⟨b,1,none⟩=some vh:=by
  rcases hj with ⟨rfl,rfl⟩|⟨rfl,rfl⟩
  ·exact (World.cell?_setCell_other _ _ _ _ (by simp)).trans h.s1
  ·exact World.cell?_setCell_same _ _ _ h.s1
 exact ⟨e0,e1,keep_cell_chg hc h.k0 n1,keep_cell_chg hc h.k1 n1,keep_cell_chg hc h.k2 n1,keep_cell_chg hc h.k3 n1,keep_cell_chg hc h.k4 n1,keep_cell_chg hc h.k5 n1,keep_cell_chg hc h.k6 n1,fun o=>(World.frozen?_setCell ..).trans (h.fs o),h.q2.chg hc (by simp;omega),h.q3.chg hc (by simp;omega),
  h.mp.chg mrR_fits hc (nl _ C.lm),h.mem.chg intR_fits hc (fun c hm=>nw c (by simp [hm])),h.hol.chg intR_fits hc (fun c hm=>nw c (by simp [hm])),h.dat.chg intR_fits hc (nl _ C.l0),h.lan.chg intR_fits hc (nl _ C.l1),h.fr.setCell _ _,
  (h.chg.trans hc).drop (fun c hm hl=>by
   rcases List.mem_append.1 hm with hm|hm
   ·exact hm
   ·have:=C.eb;simp at hm;omega),Nat.le_trans z hc.size⟩
structure DoX (X:Nat) (id code:Int) (dv:Value) (w:World):Prop where
 x0:w.cell? ⟨X,0,none⟩=some (.int .i64 id)
 x1:w.cell? ⟨X,1,none⟩=some (.int .i64 code)
 x2:w.cell? ⟨X,2,none⟩=some dv
 fx:∀ o,w.frozen? ⟨X,o,none⟩=false
theorem DoX.chg {id code:Int} {dv:Value} (h:DoX X id code dv w) {fp:List Nat} (hc:Chg fp w w') (hn:X∉fp):DoX X id code dv w' :=
 ⟨keep_cell_chg hc h.x0 hn,keep_cell_chg hc h.x1 hn,keep_cell_chg hc h.x2 hn,fun o=>(World.frozen?_of_block (hc.block X (block_of_cell h.x0) hn)).trans (h.fx o)⟩
theorem DoX.below {id code:Int} {dv:Value} (h:DoX X id code dv w) (hb:Below w.heap.size w w'):DoX X id code dv w':=h.chg (hb.chg []) (by simp)
theorem DoX.code {id code:Int} {dv:Value} (h:DoX X id code dv w) (z:Int):DoX X id z dv (w.setCell ⟨X,1,none⟩ (.int .i64 z)) :=
 ⟨(World.cell?_setCell_other _ _ _ _ (by simp)).trans h.x0,World.cell?_setCell_same _ _ _ h.x1,(World.cell?_setCell_other _ _ _ _ (by simp)).trans h.x2,fun o=>(World.frozen?_setCell ..).trans (h.fx o)⟩
theorem DoX.data {id code:Int} {dv:Value} (h:DoX X id code dv w) (u:Value):DoX X id code u (w.setCell ⟨X,2,none⟩ u) :=
 ⟨(World.cell?_setCell_other _ _ _ _ (by simp)).trans h.x0,(World.cell?_setCell_other _ _ _ _ (by simp)).trans h.x1,World.cell?_setCell_same _ _ _ h.x2,fun o=>(World.frozen?_setCell ..).trans (h.fx o)⟩
def DoPost (w0:World) (vw vh:Value) (fw fh:List Nat) (id:Int) (R:DoR) (e:Ending) (w:World):Prop :=
 ∃ dv fd,e = .returned (.tuple #[.agg #[vw,vh],.agg #[.int .i64 id,.int .i64 R.code,dv]])∧SlR 1 intR w R.mem vw fw∧SlR 1 intR w R.holds vh fh∧SlR 1 intR w R.data dv fd∧New fd w0 w∧Chg (fw++fh) w0 w∧Free (fw++fh) w
theorem DoW.done {R:DoR} {id:Int} {dv:Value} {fd:List Nat} {w1 w2:World} (C:DoC b w0 fm fw fh f0 f1) (h:DoW b w0 l r vm vw vh v0 v1 fm fw fh f0 f1 R.mem R.holds w) (hd:SlR 1 intR w R.data dv fd) (hn:New fd w0 w) (hf:∀ c,c∈fd->b+1+1+1<c)
 (h1:Chg [b+1+1] w w1) (h2:Chg [b+1+1+1] w1 w2):DoPost w0 vw vh fw fh id R (.returned (.tuple #[.agg #[vw,vh],.agg #[.int .i64 id,.int .i64 R.code,dv]])) w2:=by
 have hc:=h1.trans h2;have n:∀ c,c∈fw++fh->c∉[b+1+1]++[b+1+1+1]:=fun c hm hx=>by
  have:=C.lw c hm;simp at hx;omega
 have nd:∀ c,c∈fd->c∉[b+1+1]++[b+1+1+1]:=fun c hm hx=>by
  have:=hf c hm;simp at hx;omega
 have z:=h.size;refine ⟨dv,fd,rfl,h.mem.chg intR_fits hc (fun c hm=>n c (by simp [hm])),h.hol.chg intR_fits hc (fun c hm=>n c (by simp [hm])),hd.chg intR_fits hc nd,⟨hn.lo,hn.once,hn.free.chg (hd.lt intR_fits) hc nd⟩,(h.chg.trans hc).drop (fun c hm hl=>?_),h.fr.chg (fun c hm=>by have:=C.lw c hm;omega) hc n⟩;rcases List.mem_append.1 hm with hm|hm
 ·exact hm
 ·have:=C.eb;simp at hm;omega
def Deny (l:List MR) (r:Req):Prop:=writesB r=true∧onlyAt l (wholeIx l (burstOf r))=true
theorem atmDo_none {l:List MR} {ms hs:List Int} {who:Int} {r:Req} (h:wholeIx l (burstOf r)<0):atmDo l ms hs who r=⟨ms,hs,4,[]⟩:=by unfold atmDo;rw [if_pos h]
theorem atmDo_deny {l:List MR} {ms hs:List Int} {who:Int} {r:Req} (h:¬ wholeIx l (burstOf r)<0) (h1:writesB r=true) (h2:onlyAt l (wholeIx l (burstOf r))=true):atmDo l ms hs who r=⟨ms,hs,3,[]⟩:=by unfold atmDo;rw [if_neg h,if_pos ⟨h1,h2⟩]
theorem atmDo_read {l:List MR} {ms hs:List Int} {who:Int} {r:Req} (h:¬ wholeIx l (burstOf r)<0) (h1:¬ Deny l r) (h2:r.kind=1):atmDo l ms hs who r=⟨ms,hs,1,l2get ms (burstOf r)⟩:=by unfold atmDo;rw [if_neg h,if_neg (show ¬ (writesB r=true∧onlyAt l (wholeIx l (burstOf r))=true) from h1),if_pos h2]
theorem atmDo_hold {l:List MR} {ms hs:List Int} {who:Int} {r:Req} {q:Nat} (h:¬ wholeIx l (burstOf r)<0) (h1:¬ Deny l r) (h3:r.kind=3) (hq:who*2+r.id=q):atmDo l ms hs who r=⟨ms,hs.set q r.addr,2,l2get ms (burstOf r)⟩:=by
 unfold atmDo;rw [if_neg h,if_neg (show ¬ (writesB r=true∧onlyAt l (wholeIx l (burstOf r))=true) from h1),if_neg (by omega),if_pos h3,hq];rfl
theorem atmDo_tryNo {l:List MR} {ms hs:List Int} {who:Int} {r:Req} {q:Nat} (h:¬ wholeIx l (burstOf r)<0) (h1:¬ Deny l r) (h4:r.kind=4) (hq:who*2+r.id=q) (hl:q<hs.length) (hv:hs[q]≠r.addr):atmDo l ms hs who r=⟨ms,hs,1,[]⟩:=by
 unfold atmDo;rw [if_neg h,if_neg (show ¬ (writesB r=true∧onlyAt l (wholeIx l (burstOf r))=true) from h1),if_neg (by omega),if_neg (by omega),if_pos h4,hq,getW_at hl,if_neg hv]
theorem atmDo_tryYes {l:List MR} {ms hs:List Int} {who:Int} {r:Req} {q:Nat} (h:¬ wholeIx l (burstOf r)<0) (h1:¬ Deny l r) (h4:r.kind=4) (hq:who*2+r.id=q) (hl:q<hs.length) (hv:hs[q]=r.addr):atmDo l ms hs who r=⟨l2put ms (burstOf r) r.data r.lanes,freeH hs (burstOf r),2,[]⟩:=by
 unfold atmDo;rw [if_neg h,if_neg (show ¬ (writesB r=true∧onlyAt l (wholeIx l (burstOf r))=true) from h1),if_neg (by omega),if_neg (by omega),if_pos h4,hq,getW_at hl,if_pos hv]
theorem atmDo_write {l:List MR} {ms hs:List Int} {who:Int} {r:Req} (h:¬ wholeIx l (burstOf r)<0) (h1:¬ Deny l r) (k1:r.kind≠1) (k3:r.kind≠3) (k4:r.kind≠4):atmDo l ms hs who r=⟨l2put ms (burstOf r) r.data r.lanes,freeH hs (burstOf r),1,[]⟩:=by
 unfold atmDo;rw [if_neg h,if_neg (show ¬ (writesB r=true∧onlyAt l (wholeIx l (burstOf r))=true) from h1),if_neg k1,if_neg k3,if_neg k4]
theorem whole_adr {l:List MR} {r:Req} (h:¬ wholeIx l (burstOf r)<0):adrOk r.addr r.many r.wrap=true:=by
 cases e:adrOk r.addr r.many r.wrap
 ·exact absurd (by unfold burstOf adrBurst;rw [if_neg (by simp [e])];simp [wholeIx]) h
 ·rfl
theorem burstOf_in {r:Req} (h:adrOk r.addr r.many r.wrap=true):∀ i (hi:i<(burstOf r).length),0<=(burstOf r)[i]∧(burstOf r)[i]<=63:=fun i hi=>by
 obtain ⟨_,_,hm,_⟩:=adrOk_true.1 h;obtain ⟨n,hn⟩:=Int.eq_ofNat_of_zero_le (show 0<=r.many by omega);have e:burstOf r=burst r.addr n r.wrap:=by unfold burstOf adrBurst;rw [if_pos h,hn];rfl
 have hi':i<(burst r.addr n r.wrap).length:=by rw [<- e];exact hi
 have:(burstOf r)[i]=bval r.addr n r.wrap i:=by
  rw [<- burst_at r.addr n r.wrap i hi']
  congr 1
 rw [this];exact bval_in _ _ _ (by rw [<- hn];exact h) i (by rw [burst_len] at hi';exact hi')
theorem burstOf_len {r:Req} (h:adrOk r.addr r.many r.wrap=true):((burstOf r).length:Int)=r.many:=by
 obtain ⟨_,_,hm,_⟩:=adrOk_true.1 h;obtain ⟨n,hn⟩:=Int.eq_ofNat_of_zero_le (show 0<=r.many by omega);have e:burstOf r=burst r.addr n r.wrap:=by unfold burstOf adrBurst;rw [if_pos h,hn];rfl
 rw [e,burst_len,hn]
set_option maxRecDepth 100000 in
set_option maxHeartbeats 12800000 in
theorem l4Do_any (l:List MR) (ms hs:List Int) (r:Req) (who:Int) (vm vw vh v0 v1:Value) (fm fw fh f0 f1:List Nat) (hms:ms.length=64) (hhs:hs.length=6) (hw0:0<=who) (hw2:who<=2) (hfit:0<=r.id∧r.id<=1∧(adrOk r.addr r.many r.wrap=true->r.kind≠1->r.kind≠3->(r.data.length:Int)=r.many∧(r.lanes.length:Int)=r.many)) (w:World)
 (gm:SlR 4 mrR w l vm fm) (gw:IntS w ms vw fw) (gh:IntS w hs vh fh) (g0:IntS w r.data v0 f0) (g1:IntS w r.lanes v1 f1) (fr:Free (fw++fh) w) (dj:∀ b,b∈fw->b∉fh) (nm:∀ b,b∈fm->b∉fw++fh) (n0:∀ b,b∈f0->b∉fw++fh) (n1:∀ b,b∈f1->b∉fw++fh) :
 Calls Try.prog 133 #[vm,.agg #[vw,vh],.int .i64 who,.agg #[.int .i64 r.id,.int .i64 r.kind,.int .i64 r.addr,.int .i64 r.many,.bool r.wrap,v0,v1]] w (DoPost w vw vh fw fh r.id (atmDo l ms hs who r)):=by
 obtain ⟨aw,nw,cw,rfl⟩:=gw.form;obtain ⟨ah,nh,ch,rfl⟩:=gh.form;obtain ⟨a0,n0_,c0_,rfl⟩:=g0.form;obtain ⟨a1,n1_,c1_,rfl⟩:=g1.form;obtain ⟨hi0,hi1,hlen⟩:=hfit;obtain ⟨at_,hat⟩:=Int.eq_ofNat_of_zero_le (show 0<=who*2+r.id by omega);have hat6:at_<6:=by omega
 obtain ⟨w1,hw1⟩:∃ z,z=(((w.alloc (.cells #[.slice aw nw cw,.slice ah nh ch] 68)).alloc (.cells #[.int .i64 r.id,.int .i64 r.kind,.int .i64 r.addr,.int .i64 r.many,.bool r.wrap,.slice a0 n0_ c0_,.slice a1 n1_ c1_] 26)).alloc (.cells #[.slice none 0 0,.slice none 0 0] 68)).alloc (.cells #[.int .i64 0,.int .i64 0,.slice none 0 0] 62):=⟨_,rfl⟩;have b1:Below w.heap.size w w1:=by rw [hw1];exact (((below_alloc _ _).trans ((below_alloc _ _).mono (by simp))).trans ((below_alloc _ _).mono (by simp;omega))).trans ((below_alloc _ _).mono (by simp;omega))
 have C:DoC w.heap.size w fm fw fh f0 f1:=⟨rfl,fun c hc=>(List.mem_append.1 hc).elim (gw.lt intR_fits c) (gh.lt intR_fits c),gm.lt mrR_fits,g0.lt intR_fits,g1.lt intR_fits,dj,nm,n0,n1⟩;have D:DoW w.heap.size w l r vm (.slice aw nw cw) (.slice ah nh ch) (.slice a0 n0_ c0_) (.slice a1 n1_ c1_) fm fw fh f0 f1 ms hs w1:=by
  have k:∀ j (hj:j<7),w1.cell? ⟨w.heap.size+1,j,none⟩=some ((#[.int .i64 r.id,.int .i64 r.kind,.int .i64 r.addr,.int .i64 r.many,.bool r.wrap,.slice a0 n0_ c0_,.slice a1 n1_ c1_]:Array Value)[j]'hj):=fun j hj=>by
   rw [hw1];exact alloc_keep (alloc_keep (alloc_at (by simp) (by simp [show j<7 from hj])) _) _
  refine ⟨?_,?_,k 0 (by decide),k 1 (by decide),k 2 (by decide),k 3 (by decide),k 4 (by decide),k 5 (by decide),k 6 (by decide),fun o=>?_,?_,?_,gm.below mrR_fits b1,SlR.below intR_fits gw b1,SlR.below intR_fits gh b1,SlR.below intR_fits g0 b1,SlR.below intR_fits g1 b1,fr.below C.lw b1,b1.chg _,by rw [hw1];simp⟩
  ·rw [hw1];exact alloc_keep (alloc_keep (alloc_keep (alloc_at rfl rfl) _) _) _
  ·rw [hw1];exact alloc_keep (alloc_keep (alloc_keep (alloc_at rfl rfl) _) _) _
  ·have:RoomAt w.heap.size 0 w1:=by rw [hw1];exact (((room_alloc rfl (Nat.zero_le _)).below (below_alloc _ _)).below (below_alloc _ _)).below (below_alloc _ _)
   exact this.2.2 o
  ·rw [hw1];exact (room_alloc (by simp) (by simp)).below (below_alloc _ _)
  ·rw [hw1];exact room_alloc (by simp) (by simp)
 have HC:=Lib.hid C;have HD:=Lib.hid D;have HMS:=Lib.hid hms;have HHS:=Lib.hid hhs;have HLEN:=Lib.hid hlen;have HAT:=Lib.hid hat
 have hatr:who*2+r.id=at_:=hat
 have k0:=D.k0;have k2:=D.k2;have k3:=D.k3;have k4:=D.k4;clear gm gw gh g0 g1 fr dj nm n0 n1 b1 C D hms hhs hlen hat
 go_enter Try.func133,Try.ntmps133
 go_upto_region 1 with fail
 rw [<- hw1];clear hw1;obtain ⟨bs,hbs⟩:∃ z,z=w.heap.size:=⟨_,rfl⟩;rw [<- hbs] at HC HD k0 k2 k3 k4;have HBS:=Lib.hid hbs;rw [<- hbs];clear hbs;go_wp2_with fail
 refine (sAdrBurst_any _ _ _ _).mono ?_;rintro e w2 ⟨va,fa,rfl,ga,na,b2⟩;replace ga:IntS w2 (burstOf r) va fa:=ga;obtain ⟨aa,n,ca,rfl,hn,hcap,hmax,hcm,-⟩:=ga.opened;have HD2:=Lib.hid (HD.out.below HC.out b2);have hna:∀ c,c∈fa->bs+1+1+1<c:=fun c hc=>by have:=na.lo c hc;have:=HD.out.size;omega
 have HNA:=Lib.hid hna;have HGA:=Lib.hid ga;have hle:(burstOf r).length<=4:=adrBurst_len _ _ _;have HLE:=Lib.hid hle;clear b2 na HD hna hle ga k0 k2 k3 k4;go_wp2_with fail
 refine (l1Whole_any vm l fm _ (burstOf r) fa HLE.out _ HD2.out.mp HGA.out).mono ?_;rintro e w3 ⟨rfl,b3⟩;have HD3:=Lib.hid (HD2.out.below HC.out b3);have HG3:=Lib.hid (SlR.below intR_fits HGA.out b3);have k0:=HD3.out.k0;have HMP:=Lib.hid HD3.out.mp;clear b3 HD2 HGA;obtain ⟨w4,hw4⟩:∃ z,z=w3.alloc (.cells #[.int .i64 r.id,.int .i64 1,.slice none 0 0] 62):=⟨_,rfl⟩;have b4:Below w3.heap.size w3 w4:=by rw [hw4];exact below_alloc _ _
 have X4:DoX w3.heap.size r.id 1 (.slice none 0 0) w4:=by
  rw [hw4];exact ⟨alloc1_new _ _ _ 0 rfl,alloc1_new _ _ _ 1 rfl,alloc1_new _ _ _ 2 rfl,fun o=>World.frozen?_alloc_at _ _ _ _ rfl⟩
 have HD4:=Lib.hid (HD3.out.below HC.out b4);have HG4:=Lib.hid (SlR.below intR_fits HG3.out b4);have HX4:=Lib.hid X4;have hXb:bs+1+1+1<w3.heap.size:=by have:=HD3.out.size;omega
 have hXn:w3.heap.size∉fw++fh:=fun hm=>by have:=HC.out.lw _ hm;omega
 have HXF:Hid (w3.heap.size∉fa):=Lib.hid (fun hm=>by have:=SlR.lt intR_fits HG3.out _ hm;omega);clear b4 X4;obtain ⟨ix,hix⟩:∃ z,z=wholeIx l (burstOf r):=⟨_,rfl⟩;rw [<- hix];have HIX:=Lib.hid hix.symm;clear hix;go_upto_region 4 with fail
 rw [<- hw4];clear hw4 HD3 HG3 HMP k0;obtain ⟨X,hX⟩:∃ z,z=w3.heap.size:=⟨_,rfl⟩;rw [<- hX] at hXb hXn HXF HX4;rw [<- hX];clear hX;have x1:=HX4.out.x1;have f1:=HX4.out.fx 1;have hatm:0<=who*2+r.id:=by omega
 have ns2:bs∉[bs+1+1]:=by simp;omega
 have nx2:X∉[bs+1+1]:=by simp;omega
 by_cases hneg:ix<0
 ·have hR:atmDo l ms hs who r=⟨ms,hs,4,[]⟩:=atmDo_none (by rw [HIX.out];exact hneg);have HR:=Lib.hid hR;clear hR;go_upto_region 6 with fail
  obtain ⟨wz,hwz⟩:∃ z,z=w4.setCell ⟨X,1,none⟩ (.int .i64 4):=⟨_,rfl⟩;rw [<- hwz];have chz:Chg [X] w4 wz:=by rw [hwz];exact store_chg _
  have HDz:=Lib.hid (HD4.out.far HC.out chz (by simp;omega));have HXz:=Lib.hid (by rw [hwz];exact HX4.out.code 4:DoX X r.id 4 (.slice none 0 0) wz);clear hwz chz HD4 HX4 x1 f1;have Q2:=HDz.out.q2;have s0:=HDz.out.s0;have s1:=HDz.out.s1;have x0:=HXz.out.x0;have x1:=HXz.out.x1;have x2:=HXz.out.x2;have hst:∀ F,F∈[FEq (.agg #[.slice aw nw cw,.slice ah nh ch]),FEq (.agg #[.int .i64 r.id,.int .i64 4,.slice none 0 0]),FCs (bs+1+1) [.slice aw nw cw,.slice ah nh ch]]->Stable [] F:=by
   simp only [List.forall_mem_cons];exact ⟨stEq _ _,stEq _ _,stCs _ _,fun _ h=>by simp at h⟩
  refine wp_region_tail (by kernel_rfl) (fun i=>(tbl4Do6:List (List Nat)).getD i []) (facts [FEq (.agg #[.slice aw nw cw,.slice ah nh ch]),FEq (.agg #[.int .i64 r.id,.int .i64 4,.slice none 0 0]),FCs (bs+1+1) [.slice aw nw cw,.slice ah nh ch]]) (fun m w'=>Chg [bs+1+1] wz w'∧RoomAt (bs+1+1) 2 w') 111 4 3 [some 30,some 31,none] _ rfl rfl (by decide) rfl rfl (by kernel_rfl) (by kernel_rfl) [] (by kernel_rfl) (fun g b hm v w h=>by simp at hm) ?h0 (all_lt (n:=3) ?hop) ?hend
  case h0=>exact ⟨(Chg.refl _ _).drewN 1,Q2⟩
  case hop =>
   refine ⟨⟨⟨trivial,?_⟩,?_⟩,?_⟩
   ·refine Owes.q 111 (fun u=>[(5,.pointer (some ⟨bs,0,none⟩))]) fun u w' hI hR=>?_;dsimp only [frm,List.foldl,List.replicate,List.set];obtain ⟨_,hI⟩:=hI;have k0:=keep_cell_chg hI.1 s0 ns2;have k1:=keep_cell_chg hI.1 s1 ns2;clear hI hst hR;go_wp2;exact ⟨rfl,_,rfl,rfl,rfl⟩
   ·refine Owes.q 111 (fun u=>[(12,.pointer (some ⟨X,0,none⟩))]) fun u w' hI hR=>?_;dsimp only [frm,List.foldl,List.replicate,List.set];obtain ⟨_,hI⟩:=hI;have k2:=keep_cell_chg hI.1 x0 nx2;have k3:=keep_cell_chg hI.1 x1 nx2;have k4:=keep_cell_chg hI.1 x2 nx2;clear hI hst hR;go_wp2;exact ⟨rfl,_,rfl,rfl,rfl⟩
   ·refine Owes.mk _ rfl rfl (fun _ _ h=>by cases h) fun u m w' hm hI hR=>⟨⟨(frm 111 [(8,.pointer (some ⟨bs+1+1,0,none⟩)),(30,u 0)]).toArray,[]⟩,rfl,fun d hd=>(by cases hd),?_⟩;dsimp only [frm,List.foldl,List.replicate,List.set];have e0:u 0=_:=hR 0 (by decide);rw [e0];clear e0;obtain ⟨hc,hr⟩:=hI;obtain ⟨u0,p0⟩:=hr.2.1 0 (by omega);obtain ⟨u1,p1⟩:=hr.2.1 1 (by omega);have f0:=hr.2.2 0;have f1:=hr.2.2 1;have HCc:=Lib.hid hc;have HRr:=Lib.hid hr;clear hc hr hst hR;go_wp2;exact ⟨rfl,undef,rfl,FCs.two (v:=undef) p0 p1,⟨HCc.out.trans' ((store_chg _).trans' (store_chg _)),(HRr.out.set (by omega)).set (by omega)⟩,fun j x h=>by match j,h with|0,h=>exact h|1,h=>exact h|2,_=>exact FCs.two (v:=undef) p0 p1|(j+3),_=>trivial⟩
  case hend =>
   intro u w' hI hR;simp only [setAll,List.set_cons_zero,List.set_cons_succ];have e1:u 1=_:=hR 1 (by decide);rw [e1];have q:=(hR 2 (by decide):FCs _ _ _ _);have q0:=q 0 (by simp);have q1:=q 1 (by simp);simp only [List.getElem_cons_zero,List.getElem_cons_succ] at q0 q1;obtain ⟨hc,-⟩:=hI;obtain ⟨zq,p3,g3⟩:=HDz.out.q3.chg hc (by simp);obtain ⟨u0,p30⟩:=p3 0 (by omega);obtain ⟨u1,p31⟩:=p3 1 (by omega);obtain ⟨u2,p32⟩:=p3 2 (by omega);have g30:=g3 0;have g31:=g3 1;have g32:=g3 2;have HCc:=Lib.hid hc;clear hR hst e1 hc p3 g3 q s0 s1 x0 x1 x2 Q2;go_wp2;obtain ⟨t0,t1,t2,t3⟩:=fin3 (.int .i64 r.id) (.int .i64 4) (.slice none 0 0) p30 p31 p32;have nq:bs+1+1∉[bs+1+1+1]:=by simp
   have q0f:=keep_cell_chg t3 q0 nq;have q1f:=keep_cell_chg t3 q1 nq;refine bodyPost_ret (v:=.tuple #[.agg #[.slice aw nw cw,.slice ah nh ch],.agg #[.int .i64 r.id,.int .i64 4,.slice none 0 0]]) (by simp [results,Try.results133,go_sem,t0,t1,t2,q0f,q1f]) rfl ?_;rw [HR.out];exact HDz.out.done (R:=⟨_,_,_,_⟩) HC.out ⟨none,0,0,rfl,rfl,Nat.le_refl _,Nat.zero_le _,.inl ⟨rfl,rfl⟩⟩ (New.nil _ _) (fun c hm=>by simp at hm) HCc.out t3
 ·have HNEG:Hid (0<=wholeIx l (burstOf r)):=Lib.hid (by rw [HIX.out];omega);have HADR:=Lib.hid (whole_adr (Int.not_lt.2 HNEG.out));obtain ⟨ii,rfl⟩:=Int.eq_ofNat_of_zero_le (show 0<=ix by omega);have hil:ii<l.length:=by
   have h1:=wholeIx_hi (l:=l) (ads:=burstOf r) (by rw [HIX.out];omega);rw [HIX.out] at h1;simpa using h1
  obtain ⟨amp,nmp,cmp,rfl,hnmp,hcmp,hmmp,-,rmp⟩:=HD4.out.mp.opened;have hin:ii<nmp:=by rw [<- hnmp.out];exact hil
  have hini:(ii:Int)<(nmp:Int):=by omega
  obtain ⟨_,bm,om,fmx,csx,rfl,_,_,_,⟨rfl,rfl⟩,ecm⟩:=rmp ii hin;have cO:=ecm 3 (by simp);simp only [List.getElem_cons_succ,List.getElem_cons_zero] at cO;have hOn:onlyAt l (wholeIx l (burstOf r))=l[ii].only:=by rw [HIX.out];exact onlyAt_at hil
  obtain ⟨on,hon⟩:∃ z,z=l[ii].only:=⟨_,rfl⟩;rw [<- hon] at cO hOn;have HON:=Lib.hid hOn;clear hon hOn rmp ecm hneg;have k0:=HD4.out.k0;have k1:=HD4.out.k1;have k2:=HD4.out.k2;have k3:=HD4.out.k3;have k4:=HD4.out.k4;have k5:=HD4.out.k5;have k6:=HD4.out.k6;go_wp2_with fail
  refine (l3Writes_any r _ _ _).mono ?_;rintro e w5 ⟨rfl,b5⟩;have cO:=keep_cell b5 cO;have HD5:=Lib.hid (HD4.out.below HC.out b5);have HG5:=Lib.hid (SlR.below intR_fits HG4.out b5);have HX5:=Lib.hid (HX4.out.below b5);clear k0 k1 k2 k3 k4 k5 k6 x1 f1 b5 HD4 HG4 HX4;obtain ⟨wr,hwr⟩:∃ z,z=writesB r:=⟨_,rfl⟩;rw [<- hwr];have HWR:=Lib.hid hwr.symm;clear hwr;have x1:=HX5.out.x1;have f1:=HX5.out.fx 1;have k0:=HD5.out.k0;have k1:=HD5.out.k1;have hden:(wr=true∧on=true)∨¬ Deny l r:=by
   unfold Deny;rw [HWR.out,HON.out];exact Classical.em _
  rcases hden with ⟨rfl,rfl⟩|hden
  ·have hR:atmDo l ms hs who r=⟨ms,hs,3,[]⟩:=atmDo_deny (Int.not_lt.2 HNEG.out) HWR.out HON.out;have HR:=Lib.hid hR;clear hR;go_upto_region 9 with fail
   obtain ⟨wz,hwz⟩:∃ z,z=w5.setCell ⟨X,1,none⟩ (.int .i64 3):=⟨_,rfl⟩;rw [<- hwz];have chz:Chg [X] w5 wz:=by rw [hwz];exact store_chg _
   have HDz:=Lib.hid (HD5.out.far HC.out chz (by simp;omega));have HXz:=Lib.hid (by rw [hwz];exact HX5.out.code 3:DoX X r.id 3 (.slice none 0 0) wz);clear hwz chz HD5 HX5 x1 f1;have Q2:=HDz.out.q2;have s0:=HDz.out.s0;have s1:=HDz.out.s1;have x0:=HXz.out.x0;have x1:=HXz.out.x1;have x2:=HXz.out.x2;have hst:∀ F,F∈[FEq (.agg #[.slice aw nw cw,.slice ah nh ch]),FEq (.agg #[.int .i64 r.id,.int .i64 3,.slice none 0 0]),FCs (bs+1+1) [.slice aw nw cw,.slice ah nh ch]]->Stable [] F:=by
    simp only [List.forall_mem_cons];exact ⟨stEq _ _,stEq _ _,stCs _ _,fun _ h=>by simp at h⟩
   refine wp_region_tail (by kernel_rfl) (fun i=>(tbl4Do9:List (List Nat)).getD i []) (facts [FEq (.agg #[.slice aw nw cw,.slice ah nh ch]),FEq (.agg #[.int .i64 r.id,.int .i64 3,.slice none 0 0]),FCs (bs+1+1) [.slice aw nw cw,.slice ah nh ch]]) (fun m w'=>Chg [bs+1+1] wz w'∧RoomAt (bs+1+1) 2 w') 111 4 3 [some 42,some 43,none] _ rfl rfl (by decide) rfl rfl (by kernel_rfl) (by kernel_rfl) [] (by kernel_rfl) (fun g b hm v w h=>by simp at hm) ?h0 (all_lt (n:=3) ?hop) ?hend
   case h0=>exact ⟨(Chg.refl _ _).drewN 1,Q2⟩
   case hop =>
    refine ⟨⟨⟨trivial,?_⟩,?_⟩,?_⟩
    ·refine Owes.q 111 (fun u=>[(5,.pointer (some ⟨bs,0,none⟩))]) fun u w' hI hR=>?_;dsimp only [frm,List.foldl,List.replicate,List.set];obtain ⟨_,hI⟩:=hI;have k0:=keep_cell_chg hI.1 s0 ns2;have k1:=keep_cell_chg hI.1 s1 ns2;clear hI hst hR;go_wp2;exact ⟨rfl,_,rfl,rfl,rfl⟩
    ·refine Owes.q 111 (fun u=>[(12,.pointer (some ⟨X,0,none⟩))]) fun u w' hI hR=>?_;dsimp only [frm,List.foldl,List.replicate,List.set];obtain ⟨_,hI⟩:=hI;have k2:=keep_cell_chg hI.1 x0 nx2;have k3:=keep_cell_chg hI.1 x1 nx2;have k4:=keep_cell_chg hI.1 x2 nx2;clear hI hst hR;go_wp2;exact ⟨rfl,_,rfl,rfl,rfl⟩
    ·refine Owes.mk _ rfl rfl (fun _ _ h=>by cases h) fun u m w' hm hI hR=>⟨⟨(frm 111 [(8,.pointer (some ⟨bs+1+1,0,none⟩)),(42,u 0)]).toArray,[]⟩,rfl,fun d hd=>(by cases hd),?_⟩;dsimp only [frm,List.foldl,List.replicate,List.set];have e0:u 0=_:=hR 0 (by decide);rw [e0];clear e0;obtain ⟨hc,hr⟩:=hI;obtain ⟨u0,p0⟩:=hr.2.1 0 (by omega);obtain ⟨u1,p1⟩:=hr.2.1 1 (by omega);have f0:=hr.2.2 0;have f1:=hr.2.2 1;have HCc:=Lib.hid hc;have HRr:=Lib.hid hr;clear hc hr hst hR;go_wp2;exact ⟨rfl,undef,rfl,FCs.two (v:=undef) p0 p1,⟨HCc.out.trans' ((store_chg _).trans' (store_chg _)),(HRr.out.set (by omega)).set (by omega)⟩,fun j x h=>by match j,h with|0,h=>exact h|1,h=>exact h|2,_=>exact FCs.two (v:=undef) p0 p1|(j+3),_=>trivial⟩
   case hend =>
    intro u w' hI hR;simp only [setAll,List.set_cons_zero,List.set_cons_succ];have e1:u 1=_:=hR 1 (by decide);rw [e1];have q:=(hR 2 (by decide):FCs _ _ _ _);have q0:=q 0 (by simp);have q1:=q 1 (by simp);simp only [List.getElem_cons_zero,List.getElem_cons_succ] at q0 q1;obtain ⟨hc,-⟩:=hI;obtain ⟨zq,p3,g3⟩:=HDz.out.q3.chg hc (by simp);obtain ⟨u0,p30⟩:=p3 0 (by omega);obtain ⟨u1,p31⟩:=p3 1 (by omega);obtain ⟨u2,p32⟩:=p3 2 (by omega);have g30:=g3 0;have g31:=g3 1;have g32:=g3 2;have HCc:=Lib.hid hc;clear hR hst e1 hc p3 g3 q s0 s1 x0 x1 x2 Q2;go_wp2;obtain ⟨t0,t1,t2,t3⟩:=fin3 (.int .i64 r.id) (.int .i64 3) (.slice none 0 0) p30 p31 p32;have nq:bs+1+1∉[bs+1+1+1]:=by simp
    have q0f:=keep_cell_chg t3 q0 nq;have q1f:=keep_cell_chg t3 q1 nq;refine bodyPost_ret (v:=.tuple #[.agg #[.slice aw nw cw,.slice ah nh ch],.agg #[.int .i64 r.id,.int .i64 3,.slice none 0 0]]) (by simp [results,Try.results133,go_sem,t0,t1,t2,q0f,q1f]) rfl ?_;rw [HR.out];exact HDz.out.done (R:=⟨_,_,_,_⟩) HC.out ⟨none,0,0,rfl,rfl,Nat.le_refl _,Nat.zero_le _,.inl ⟨rfl,rfl⟩⟩ (New.nil _ _) (fun c hm=>by simp at hm) HCc.out t3
  ·have HDEN:=Lib.hid hden;have hno:¬ (wr=true∧on=true):=by unfold Deny at hden;rw [HWR.out,HON.out] at hden;exact hden
   have hgo:wr=false∨(wr=true∧on=false):=by
    cases wr
    ·exact .inl rfl
    ·cases on
     ·exact .inr ⟨rfl,rfl⟩
     ·exact absurd ⟨rfl,rfl⟩ hno
   clear hden hno;obtain ⟨kd,hkd⟩:∃ z,z=r.kind:=⟨_,rfl⟩;rw [<- hkd] at k1;have HKD:=Lib.hid hkd.symm;clear hkd;by_cases hk1:kd=1
   ·subst hk1;obtain rfl:wr=false:=by
     rw [<- HWR.out];unfold writesB;rw [HKD.out];rfl
    have hR:atmDo l ms hs who r=⟨ms,hs,1,l2get ms (burstOf r)⟩:=atmDo_read (Int.not_lt.2 HNEG.out) HDEN.out HKD.out;have HR:=Lib.hid hR;have s0:=HD5.out.s0;clear hR hgo;go_wp2_with fail
    refine (l2Get_any ms (burstOf r) _ _ fw fa HMS.out HLE.out (burstOf_in HADR.out) _ HD5.out.mem HG5.out).mono ?_;rintro e w6 ⟨v6,fp6,rfl,g6,n6,b6⟩;obtain ⟨a6,m6,c6,rfl⟩:=SlR.form g6;have HD6:=Lib.hid (HD5.out.below HC.out b6);have HX6:=Lib.hid (HX5.out.below b6);have HG6:=Lib.hid g6;have hz5:=HD5.out.size;have hx5:X<w5.heap.size:=block_of_cell HX5.out.x0;have hbs:=HBS.out;have HF6:Hid (∀ c,c∈fp6->bs+1+1+1<c):=Lib.hid (fun c hm=>by have:=n6.lo c hm;omega);have HN6:=Lib.hid (New.mk (fun c hm=>by have:=n6.lo c hm;omega) n6.once n6.free:New fp6 w w6);have HXN:Hid (∀ c,c∈fp6->c∉[X]):=Lib.hid (fun c hm e=>by have:=n6.lo c hm;simp at e;omega);have x1:=HX6.out.x1;have f1:=HX6.out.fx 1;have x2:=HX6.out.x2;have f2:=HX6.out.fx 2;clear g6 n6 b6 hz5 hx5 hbs HD5 HX5 HG5 s0 k0 k1;go_upto_region 26 with fail
    obtain ⟨w7,hw7⟩:∃ z,z=w6.setCell ⟨X,2,none⟩ (.slice a6 m6 c6):=⟨_,rfl⟩;rw [<- hw7];have ch7:Chg [X] w6 w7:=by rw [hw7];exact store_chg _
    have HD7:=Lib.hid (HD6.out.far HC.out ch7 (by simp;omega));have HX7:=Lib.hid (by rw [hw7];exact HX6.out.data _:DoX X r.id 1 (.slice a6 m6 c6) w7);have HG7:=Lib.hid (SlR.chg intR_fits HG6.out ch7 HXN.out);have HN7:=Lib.hid (New.mk HN6.out.lo HN6.out.once (HN6.out.free.chg (SlR.lt intR_fits HG6.out) ch7 HXN.out):New fp6 w w7);clear hw7 ch7 x1 f1 x2 f2 HD6 HX6 HG6 HN6 HXN;have Q2:=HD7.out.q2;have s0:=HD7.out.s0;have s1:=HD7.out.s1;have x0:=HX7.out.x0;have x1:=HX7.out.x1;have x2:=HX7.out.x2;have hst:∀ F,F∈[FEq (.agg #[.slice aw nw cw,.slice ah nh ch]),FEq (.agg #[.int .i64 r.id,.int .i64 1,.slice a6 m6 c6]),FCs (bs+1+1) [.slice aw nw cw,.slice ah nh ch]]->Stable [] F:=by
     simp only [List.forall_mem_cons];exact ⟨stEq _ _,stEq _ _,stCs _ _,fun _ h=>by simp at h⟩
    refine wp_region_tail (by kernel_rfl) (fun i=>(tbl4Do26:List (List Nat)).getD i []) (facts [FEq (.agg #[.slice aw nw cw,.slice ah nh ch]),FEq (.agg #[.int .i64 r.id,.int .i64 1,.slice a6 m6 c6]),FCs (bs+1+1) [.slice aw nw cw,.slice ah nh ch]]) (fun m w'=>Chg [bs+1+1] w7 w'∧RoomAt (bs+1+1) 2 w') 111 4 3 [some 109,some 110,none] _ rfl rfl (by decide) rfl rfl (by kernel_rfl) (by kernel_rfl) [] (by kernel_rfl) (fun g b hm v w h=>by simp at hm) ?h0 (all_lt (n:=3) ?hop) ?hend
    case h0=>exact ⟨(Chg.refl _ _).drewN 1,Q2⟩
    case hop =>
     refine ⟨⟨⟨trivial,?_⟩,?_⟩,?_⟩
     ·refine Owes.q 111 (fun u=>[(5,.pointer (some ⟨bs,0,none⟩))]) fun u w' hI hR=>?_;dsimp only [frm,List.foldl,List.replicate,List.set];obtain ⟨_,hI⟩:=hI;have k0:=keep_cell_chg hI.1 s0 ns2;have k1:=keep_cell_chg hI.1 s1 ns2;clear hI hst hR;go_wp2;exact ⟨rfl,_,rfl,rfl,rfl⟩
     ·refine Owes.q 111 (fun u=>[(12,.pointer (some ⟨X,0,none⟩))]) fun u w' hI hR=>?_;dsimp only [frm,List.foldl,List.replicate,List.set];obtain ⟨_,hI⟩:=hI;have k2:=keep_cell_chg hI.1 x0 nx2;have k3:=keep_cell_chg hI.1 x1 nx2;have k4:=keep_cell_chg hI.1 x2 nx2;clear hI hst hR;go_wp2;exact ⟨rfl,_,rfl,rfl,rfl⟩
     ·refine Owes.mk _ rfl rfl (fun _ _ h=>by cases h) fun u m w' hm hI hR=>⟨⟨(frm 111 [(8,.pointer (some ⟨bs+1+1,0,none⟩)),(109,u 0)]).toArray,[]⟩,rfl,fun d hd=>(by cases hd),?_⟩;dsimp only [frm,List.foldl,List.replicate,List.set];have e0:u 0=_:=hR 0 (by decide);rw [e0];clear e0;obtain ⟨hc,hr⟩:=hI;obtain ⟨u0,p0⟩:=hr.2.1 0 (by omega);obtain ⟨u1,p1⟩:=hr.2.1 1 (by omega);have f0:=hr.2.2 0;have f1:=hr.2.2 1;have HCc:=Lib.hid hc;have HRr:=Lib.hid hr;clear hc hr hst hR;go_wp2;exact ⟨rfl,undef,rfl,FCs.two (v:=undef) p0 p1,⟨HCc.out.trans' ((store_chg _).trans' (store_chg _)),(HRr.out.set (by omega)).set (by omega)⟩,fun j x h=>by match j,h with|0,h=>exact h|1,h=>exact h|2,_=>exact FCs.two (v:=undef) p0 p1|(j+3),_=>trivial⟩
    case hend =>
     intro u w' hI hR;simp only [setAll,List.set_cons_zero,List.set_cons_succ];have e1:u 1=_:=hR 1 (by decide);rw [e1];have q:=(hR 2 (by decide):FCs _ _ _ _);have q0:=q 0 (by simp);have q1:=q 1 (by simp);simp only [List.getElem_cons_zero,List.getElem_cons_succ] at q0 q1;obtain ⟨hc,-⟩:=hI;obtain ⟨zq,p3,g3⟩:=HD7.out.q3.chg hc (by simp);obtain ⟨u0,p30⟩:=p3 0 (by omega);obtain ⟨u1,p31⟩:=p3 1 (by omega);obtain ⟨u2,p32⟩:=p3 2 (by omega);have g30:=g3 0;have g31:=g3 1;have g32:=g3 2;have HCc:=Lib.hid hc;clear hR hst e1 hc p3 g3 q s0 s1 x0 x1 x2 Q2;go_wp2;obtain ⟨t0,t1,t2,t3⟩:=fin3 (.int .i64 r.id) (.int .i64 1) (.slice a6 m6 c6) p30 p31 p32;have nq:bs+1+1∉[bs+1+1+1]:=by simp
     have q0f:=keep_cell_chg t3 q0 nq;have q1f:=keep_cell_chg t3 q1 nq;refine bodyPost_ret (v:=.tuple #[.agg #[.slice aw nw cw,.slice ah nh ch],.agg #[.int .i64 r.id,.int .i64 1,.slice a6 m6 c6]]) (by simp [results,Try.results133,go_sem,t0,t1,t2,q0f,q1f]) rfl ?_;rw [HR.out];exact HD7.out.done (R:=⟨_,_,_,_⟩) HC.out HG7.out (HN7.out) (fun c hm=>HF6.out c hm) HCc.out t3
   ·by_cases hk3:kd=3
    ·subst hk3;obtain rfl:wr=false:=by
      rw [<- HWR.out];unfold writesB;rw [HKD.out];rfl
     have hR:atmDo l ms hs who r=⟨ms,hs.set at_ r.addr,2,l2get ms (burstOf r)⟩:=atmDo_hold (Int.not_lt.2 HNEG.out) HDEN.out HKD.out HAT.out;have HR:=Lib.hid hR;have s0:=HD5.out.s0;clear hR hgo hk1;go_wp2_with fail
     refine (l2Get_any ms (burstOf r) _ _ fw fa HMS.out HLE.out (burstOf_in HADR.out) _ HD5.out.mem HG5.out).mono ?_;rintro e w6 ⟨v6,fp6,rfl,g6,n6,b6⟩;obtain ⟨a6,m6,c6,rfl⟩:=SlR.form g6;have HD6:=Lib.hid (HD5.out.below HC.out b6);have HX6:=Lib.hid (HX5.out.below b6);have HG6:=Lib.hid g6;have hz5:=HD5.out.size;have hx5:X<w5.heap.size:=block_of_cell HX5.out.x0;have hbs:=HBS.out;have HF6:Hid (∀ c,c∈fp6->bs+1+1+1<c):=Lib.hid (fun c hm=>by have:=n6.lo c hm;omega);have HN6:=Lib.hid (New.mk (fun c hm=>by have:=n6.lo c hm;omega) n6.once n6.free:New fp6 w w6);have HXN:Hid (∀ c,c∈fp6->c∉[X]):=Lib.hid (fun c hm e=>by have:=n6.lo c hm;simp at e;omega);have x1:=HX6.out.x1;have f1:=HX6.out.fx 1;have x2:=HX6.out.x2;have f2:=HX6.out.fx 2;clear g6 n6 b6 hz5 hx5 hbs HD5 HX5 HG5 s0 k0 k1;have k2:=HD6.out.k2;have s1:=HD6.out.s1;obtain ⟨bh,oh,rfl,hbh,mh,cH,hnh⟩:=HD6.out.hol.numAt (show at_<hs.length by rw [HHS.out];exact hat6);obtain rfl:nh=6:=by rw [<- hnh,HHS.out]
     have hati:(at_:Int)<6:=by omega
     have fH:=HD6.out.fr bh (by simp [mh]) (oh+at_);have hXbh:X≠bh:=fun e=>hXn (by simp [e,mh]);have hnX:bh∉[X]:=by simp;exact fun e=>hXbh e.symm
     have MH:=Lib.hid mh;clear hnh mh hbh;go_upto_region 26 with fail
     obtain ⟨w7,hw7⟩:∃ z,z=((w6.setCell ⟨X,2,none⟩ (.slice a6 m6 c6)).setCell ⟨X,1,none⟩ (.int .i64 2)).setCell ⟨bh,oh+at_,none⟩ (.int .i64 r.addr):=⟨_,rfl⟩;rw [<- hw7];obtain ⟨w6b,hw6b⟩:∃ z,z=(w6.setCell ⟨X,2,none⟩ (.slice a6 m6 c6)).setCell ⟨X,1,none⟩ (.int .i64 2):=⟨_,rfl⟩;rw [<- hw6b] at hw7;have ch6:Chg [X] w6 w6b:=by rw [hw6b];exact (store_chg _).trans' (store_chg _)
     have hd6b:=HD6.out.far HC.out ch6 (by simp;omega);have hx6b:DoX X r.id 2 (.slice a6 m6 c6) w6b:=by rw [hw6b];exact (HX6.out.data _).code 2
     have hg6b:=SlR.chg intR_fits HG6.out ch6 HXN.out;have hn6b:=HN6.out.free.chg (SlR.lt intR_fits HG6.out) ch6 HXN.out;obtain ⟨t1,t2,t3⟩:=IntS.set hd6b.hol rfl (show at_<6 by omega) r.addr;rw [<- hw7] at t1 t2;have hF6:∀ c,c∈fp6->c∉fh:=fun c hm hn=>by have:=HN6.out.lo c hm;have:=HC.out.lw c (by simp [hn]);have:=HBS.out;omega
     have HD7:=Lib.hid (hd6b.turn HC.out t2 (fun c hm=>.inl (by simp [hm])) (hd6b.mem.chg intR_fits t2 (fun c hm=>HC.out.dj c hm)) t1 (by rw [hw7];exact hd6b.fr.setCell _ _));have HX7:=Lib.hid (hx6b.chg t2 (fun hm=>hXn (by simp [hm])));have HG7:=Lib.hid (hg6b.chg intR_fits t2 hF6);have HN7:=Lib.hid (New.mk HN6.out.lo HN6.out.once (hn6b.chg (SlR.lt intR_fits hg6b) t2 hF6):New fp6 w w7);clear hw7 hw6b ch6 hd6b hx6b hg6b hn6b t1 t2 t3 hF6 x1 f1 x2 f2 k2 s1 cH fH HD6 HX6 HG6 HN6 HXN;have Q2:=HD7.out.q2;have s0:=HD7.out.s0;have s1:=HD7.out.s1;have x0:=HX7.out.x0;have x1:=HX7.out.x1;have x2:=HX7.out.x2;have hst:∀ F,F∈[FEq (.agg #[.slice aw nw cw,.slice (some ⟨bh,oh,none⟩) 6 ch]),FEq (.agg #[.int .i64 r.id,.int .i64 2,.slice a6 m6 c6]),FCs (bs+1+1) [.slice aw nw cw,.slice (some ⟨bh,oh,none⟩) 6 ch]]->Stable [] F:=by
      simp only [List.forall_mem_cons];exact ⟨stEq _ _,stEq _ _,stCs _ _,fun _ h=>by simp at h⟩
     refine wp_region_tail (by kernel_rfl) (fun i=>(tbl4Do26:List (List Nat)).getD i []) (facts [FEq (.agg #[.slice aw nw cw,.slice (some ⟨bh,oh,none⟩) 6 ch]),FEq (.agg #[.int .i64 r.id,.int .i64 2,.slice a6 m6 c6]),FCs (bs+1+1) [.slice aw nw cw,.slice (some ⟨bh,oh,none⟩) 6 ch]]) (fun m w'=>Chg [bs+1+1] w7 w'∧RoomAt (bs+1+1) 2 w') 111 4 3 [some 109,some 110,none] _ rfl rfl (by decide) rfl rfl (by kernel_rfl) (by kernel_rfl) [] (by kernel_rfl) (fun g b hm v w h=>by simp at hm) ?h0 (all_lt (n:=3) ?hop) ?hend
     case h0=>exact ⟨(Chg.refl _ _).drewN 1,Q2⟩
     case hop =>
      refine ⟨⟨⟨trivial,?_⟩,?_⟩,?_⟩
      ·refine Owes.q 111 (fun u=>[(5,.pointer (some ⟨bs,0,none⟩))]) fun u w' hI hR=>?_;dsimp only [frm,List.foldl,List.replicate,List.set];obtain ⟨_,hI⟩:=hI;have k0:=keep_cell_chg hI.1 s0 ns2;have k1:=keep_cell_chg hI.1 s1 ns2;clear hI hst hR;go_wp2;exact ⟨rfl,_,rfl,rfl,rfl⟩
      ·refine Owes.q 111 (fun u=>[(12,.pointer (some ⟨X,0,none⟩))]) fun u w' hI hR=>?_;dsimp only [frm,List.foldl,List.replicate,List.set];obtain ⟨_,hI⟩:=hI;have k2:=keep_cell_chg hI.1 x0 nx2;have k3:=keep_cell_chg hI.1 x1 nx2;have k4:=keep_cell_chg hI.1 x2 nx2;clear hI hst hR;go_wp2;exact ⟨rfl,_,rfl,rfl,rfl⟩
      ·refine Owes.mk _ rfl rfl (fun _ _ h=>by cases h) fun u m w' hm hI hR=>⟨⟨(frm 111 [(8,.pointer (some ⟨bs+1+1,0,none⟩)),(109,u 0)]).toArray,[]⟩,rfl,fun d hd=>(by cases hd),?_⟩;dsimp only [frm,List.foldl,List.replicate,List.set];have e0:u 0=_:=hR 0 (by decide);rw [e0];clear e0;obtain ⟨hc,hr⟩:=hI;obtain ⟨u0,p0⟩:=hr.2.1 0 (by omega);obtain ⟨u1,p1⟩:=hr.2.1 1 (by omega);have f0:=hr.2.2 0;have f1:=hr.2.2 1;have HCc:=Lib.hid hc;have HRr:=Lib.hid hr;clear hc hr hst hR;go_wp2;exact ⟨rfl,undef,rfl,FCs.two (v:=undef) p0 p1,⟨HCc.out.trans' ((store_chg _).trans' (store_chg _)),(HRr.out.set (by omega)).set (by omega)⟩,fun j x h=>by match j,h with|0,h=>exact h|1,h=>exact h|2,_=>exact FCs.two (v:=undef) p0 p1|(j+3),_=>trivial⟩
     case hend =>
      intro u w' hI hR;simp only [setAll,List.set_cons_zero,List.set_cons_succ];have e1:u 1=_:=hR 1 (by decide);rw [e1];have q:=(hR 2 (by decide):FCs _ _ _ _);have q0:=q 0 (by simp);have q1:=q 1 (by simp);simp only [List.getElem_cons_zero,List.getElem_cons_succ] at q0 q1;obtain ⟨hc,-⟩:=hI;obtain ⟨zq,p3,g3⟩:=HD7.out.q3.chg hc (by simp);obtain ⟨u0,p30⟩:=p3 0 (by omega);obtain ⟨u1,p31⟩:=p3 1 (by omega);obtain ⟨u2,p32⟩:=p3 2 (by omega);have g30:=g3 0;have g31:=g3 1;have g32:=g3 2;have HCc:=Lib.hid hc;clear hR hst e1 hc p3 g3 q s0 s1 x0 x1 x2 Q2;go_wp2;obtain ⟨t0,t1,t2,t3⟩:=fin3 (.int .i64 r.id) (.int .i64 2) (.slice a6 m6 c6) p30 p31 p32;have nq:bs+1+1∉[bs+1+1+1]:=by simp
      have q0f:=keep_cell_chg t3 q0 nq;have q1f:=keep_cell_chg t3 q1 nq;refine bodyPost_ret (v:=.tuple #[.agg #[.slice aw nw cw,.slice (some ⟨bh,oh,none⟩) 6 ch],.agg #[.int .i64 r.id,.int .i64 2,.slice a6 m6 c6]]) (by simp [results,Try.results133,go_sem,t0,t1,t2,q0f,q1f]) rfl ?_;rw [HR.out];exact HD7.out.done (R:=⟨_,_,_,_⟩) HC.out HG7.out (HN7.out) (fun c hm=>HF6.out c hm) HCc.out t3
    ·by_cases hk4:kd=4
     ·subst hk4;obtain rfl:wr=true:=by
       rw [<- HWR.out];unfold writesB;rw [HKD.out];rfl
      obtain rfl:on=false:=by
       rcases hgo with e|⟨_,e⟩
       ·cases e
       ·exact e
      obtain ⟨hsz,hhz⟩:∃ z,hs[at_]'(by rw [HHS.out];exact hat6)=z:=⟨_,rfl⟩;have HHZ:=Lib.hid hhz;have hal:at_<hs.length:=by rw [HHS.out];exact hat6
      obtain ⟨bh,oh,rfl,hbh,mh,cH,hnh⟩:=HD5.out.hol.numAt hal;rw [hhz] at cH;obtain rfl:nh=6:=by rw [<- hnh,HHS.out]
      have hati:(at_:Int)<6:=by omega
      have s1:=HD5.out.s1;have k2:=HD5.out.k2;have hZ:(hsz != r.addr)=true->atmDo l ms hs who r=⟨ms,hs,1,[]⟩:=fun e=>atmDo_tryNo (Int.not_lt.2 HNEG.out) HDEN.out HKD.out HAT.out hal (by rw [HHZ.out];simpa using e);have hY:(hsz != r.addr)=false->atmDo l ms hs who r=⟨l2put ms (burstOf r) r.data r.lanes,freeH hs (burstOf r),2,[]⟩:=fun e=>atmDo_tryYes (Int.not_lt.2 HNEG.out) HDEN.out HKD.out HAT.out hal (by rw [HHZ.out];simpa using e);have HZ:=Lib.hid hZ;have HY:=Lib.hid hY;clear hgo hk1 hk3 hhz hnh mh hbh hZ hY;go_upto_region 21 with fail
      have hst:∀ F,F∈[FEq (.pointer (some ⟨bs,1,none⟩)),FEq (.slice (some ⟨bh,oh,none⟩) 6 ch),FEq (.int .i64 (at_:Int)),FEq (.pointer (some ⟨bh,oh+at_,none⟩)),FEq (.int .i64 hsz),FEq (.pointer (some ⟨bs+1,2,none⟩)),FEq (.int .i64 r.addr),FEq (.bool (hsz != r.addr))]->Stable [] F:=by repeat first|exact st_nil|refine st_eq ?_
      refine wp_tailH hst tbl4Do21 (fun _ w'=>Below w5.heap.size w5 w') 111 8 8 [some 86,some 87,some 88,some 89,some 90,some 91,some 92,some 93] [] [] ?h0 ?hop ?hend
      case h0=>exact (Below.refl _ _).drew
      case hop =>
       refine ⟨⟨⟨⟨⟨⟨⟨⟨trivial,?_⟩,?_⟩,?_⟩,?_⟩,?_⟩,?_⟩,?_⟩,?_⟩
       ·exact Owes.k0 111 [(5,.pointer (some ⟨bs,0,none⟩))]
       ·exact Owes.c1 111 86 0 s1
       ·exact Owes.k0 111 [(13,.int .i64 (at_:Int))]
       ·exact Owes.k2 111 87 1 88 2
       ·exact Owes.c1 111 89 3 cH
       ·exact Owes.k0 111 [(7,.pointer (some ⟨bs+1,0,none⟩))]
       ·exact Owes.c1 111 91 5 k2
       ·exact Owes.k2 111 90 4 92 6
      case hend =>
       intro u w' hI hR;simp only [setAll,List.set_cons_zero,List.set_cons_succ];unfold wpList;obtain ⟨w6,hw6⟩:∃ z,z=w':=⟨_,rfl⟩;subst hw6;have e7:u 7=_:=hR 7 (by decide);rw [e7];have HD6:=Lib.hid (HD5.out.below HC.out hI);have HG6:=Lib.hid (SlR.below intR_fits HG5.out hI);have HX6:=Lib.hid (HX5.out.below hI);clear hR hI hst e7 s1 k2 cH x1 f1 k0 k1 HD5 HG5 HX5;cases hne:(hsz != r.addr)
       ·have HR:=Lib.hid (HY.out hne);have x1:=HX6.out.x1;have f1:=HX6.out.fx 1;have s0:=HD6.out.s0;have k5:=HD6.out.k5;have k6:=HD6.out.k6;obtain ⟨hdl,hll⟩:=HLEN.out HADR.out (by rw [HKD.out];decide) (by rw [HKD.out];decide);have hbl:=burstOf_len HADR.out;have HDL:Hid (r.data.length=(burstOf r).length):=Lib.hid (by omega);have HLL:Hid (r.lanes.length=(burstOf r).length):=Lib.hid (by omega);clear hdl hll hbl HZ HY;go_upto_region 24 with fail
        obtain ⟨w7,hw7⟩:∃ z,z=w6.setCell ⟨X,1,none⟩ (.int .i64 2):=⟨_,rfl⟩;rw [<- hw7];have ch7:Chg [X] w6 w7:=by rw [hw7];exact store_chg _
        have HDp:=Lib.hid (HD6.out.far HC.out ch7 (by simp;omega));have HXp:=Lib.hid (by rw [hw7];exact HX6.out.code 2:DoX X r.id 2 (.slice none 0 0) w7);have HGp:=Lib.hid (SlR.chg intR_fits HG6.out ch7 (fun c hm e=>HXF.out (by simp at e;exact e ▸ hm)));clear hw7 ch7 x1 f1 s0 k5 k6 HD6 HX6 HG6;have s0:=HDp.out.s0;have k5:=HDp.out.k5;have k6:=HDp.out.k6;go_wp2_with fail
        refine (l2Put_any ms (burstOf r) r.data r.lanes _ _ _ _ fw fa f0 _ HMS.out HLE.out HDL.out HLL.out (burstOf_in HADR.out) _ HDp.out.mem HGp.out HDp.out.dat HDp.out.lan (fun c hm=>HDp.out.fr c (by simp [hm])) (fun c hm hn=>by have:=HNA.out c hm;have:=HC.out.lw c (by simp [hn]);omega) (fun c hm hn=>HC.out.n0 c hm (by simp [hn])) (fun c hm hn=>HC.out.n1 c hm (by simp [hn]))).mono ?_;rintro e w8 ⟨rfl,g8,c8,fr8⟩;have hfa8:∀ c,c∈fa->c∉fw:=fun c hm hn=>by have:=HNA.out c hm;have:=HC.out.lw c (by simp [hn]);omega
        have hlh:∀ c,c∈fh->c<_:=fun c hm=>SlR.lt intR_fits HDp.out.hol c hm;have hnh:∀ c,c∈fh->c∉fw:=fun c hm hn=>HC.out.dj c hn hm;have HD8:=Lib.hid (HDp.out.turn HC.out c8 (fun c hm=>.inl (by simp [hm])) g8 (HDp.out.hol.chg intR_fits c8 hnh) (Free.app' fr8 (Free.chg (fun c hm=>HDp.out.fr c (by simp [hm])) hlh c8 hnh)));have HX8:=Lib.hid (HXp.out.chg c8 (fun hm=>hXn (by simp [hm])));have HG8:=Lib.hid (SlR.chg intR_fits HGp.out c8 hfa8);clear g8 c8 fr8 hfa8 hlh hnh s0 k5 k6 HDp HXp HGp;have s0:=HD8.out.s0;have fs0:=HD8.out.fs 0;go_upto_region 25 with fail
        obtain ⟨w9,hw9⟩:∃ z,z=w8.setCell ⟨bs,0,none⟩ (.slice aw nw cw):=⟨_,rfl⟩;rw [<- hw9];have ch9:Chg [bs] w8 w9:=by rw [hw9];exact store_chg _
        have HD9:=Lib.hid (by rw [hw9];exact HD8.out.again HC.out (.inl ⟨rfl,rfl⟩):DoW bs w l r _ _ _ _ _ fm fw fh _ _ _ _ w9);have nxb:X∉[bs]:=by simp;omega
        have HX9:=Lib.hid (HX8.out.chg ch9 nxb);have HG9:=Lib.hid (SlR.chg intR_fits HG8.out ch9 (fun c hm e=>by have:=HNA.out c hm;simp at e;omega));clear hw9 ch9 s0 fs0 HD8 HX8 HG8;have s0:=HD9.out.s0;have s1:=HD9.out.s1;go_wp2_with fail
        refine (l4Free_any hs (burstOf r) _ _ _ _ _ fh fa HHS.out HLE.out _ HD9.out.hol HG9.out (fun c hm=>HD9.out.fr c (by simp [hm])) (fun c hm hn=>by have:=HNA.out c hm;have:=HC.out.lw c (by simp [hn]);omega)).mono ?_;rintro e wa ⟨rfl,ga,ca_,fra⟩;have hlw:∀ c,c∈fw->c<_:=fun c hm=>SlR.lt intR_fits HD9.out.mem c hm;have HDa:=Lib.hid (HD9.out.turn HC.out ca_ (fun c hm=>.inl (by simp [hm])) (HD9.out.mem.chg intR_fits ca_ (fun c hm=>HC.out.dj c hm)) ga (Free.app' (Free.chg (fun c hm=>HD9.out.fr c (by simp [hm])) hlw ca_ (fun c hm=>HC.out.dj c hm)) fra));have HXa:=Lib.hid (HX9.out.chg ca_ (fun hm=>hXn (by simp [hm])));clear ga ca_ fra hlw s0 s1 HD9 HX9 HG9;have s0:=HDa.out.s0;have s1:=HDa.out.s1;have fs0:=HDa.out.fs 0;have fs1:=HDa.out.fs 1;go_upto_region 26 with fail
        obtain ⟨wb,hwb⟩:∃ z,z=(wa.setCell ⟨bs,0,none⟩ (.slice aw nw cw)).setCell ⟨bs,1,none⟩ (.slice (some ⟨bh,oh,none⟩) 6 ch):=⟨_,rfl⟩;rw [<- hwb];have chb:Chg [bs] wa wb:=by rw [hwb];exact (store_chg _).trans' (store_chg _)
        have HDb:=Lib.hid (by rw [hwb];exact (HDa.out.again HC.out (.inl ⟨rfl,rfl⟩)).again HC.out (.inr ⟨rfl,rfl⟩):DoW bs w l r _ _ _ _ _ fm fw fh _ _ _ _ wb);have HXb:=Lib.hid (HXa.out.chg chb nxb);clear hwb chb s0 s1 fs0 fs1 HDa HXa;have Q2:=HDb.out.q2;have s0:=HDb.out.s0;have s1:=HDb.out.s1;have x0:=HXb.out.x0;have x1:=HXb.out.x1;have x2:=HXb.out.x2;have hst:∀ F,F∈[FEq (.agg #[.slice aw nw cw,.slice (some ⟨bh,oh,none⟩) 6 ch]),FEq (.agg #[.int .i64 r.id,.int .i64 2,.slice none 0 0]),FCs (bs+1+1) [.slice aw nw cw,.slice (some ⟨bh,oh,none⟩) 6 ch]]->Stable [] F:=by
         simp only [List.forall_mem_cons];exact ⟨stEq _ _,stEq _ _,stCs _ _,fun _ h=>by simp at h⟩
        refine wp_region_tail (by kernel_rfl) (fun i=>(tbl4Do26:List (List Nat)).getD i []) (facts [FEq (.agg #[.slice aw nw cw,.slice (some ⟨bh,oh,none⟩) 6 ch]),FEq (.agg #[.int .i64 r.id,.int .i64 2,.slice none 0 0]),FCs (bs+1+1) [.slice aw nw cw,.slice (some ⟨bh,oh,none⟩) 6 ch]]) (fun m w'=>Chg [bs+1+1] wb w'∧RoomAt (bs+1+1) 2 w') 111 4 3 [some 109,some 110,none] _ rfl rfl (by decide) rfl rfl (by kernel_rfl) (by kernel_rfl) [] (by kernel_rfl) (fun g b hm v w h=>by simp at hm) ?h0 (all_lt (n:=3) ?hop) ?hend
        case h0=>exact ⟨(Chg.refl _ _).drewN 1,Q2⟩
        case hop =>
         refine ⟨⟨⟨trivial,?_⟩,?_⟩,?_⟩
         ·refine Owes.q 111 (fun u=>[(5,.pointer (some ⟨bs,0,none⟩))]) fun u w' hI hR=>?_;dsimp only [frm,List.foldl,List.replicate,List.set];obtain ⟨_,hI⟩:=hI;have k0:=keep_cell_chg hI.1 s0 ns2;have k1:=keep_cell_chg hI.1 s1 ns2;clear hI hst hR;go_wp2;exact ⟨rfl,_,rfl,rfl,rfl⟩
         ·refine Owes.q 111 (fun u=>[(12,.pointer (some ⟨X,0,none⟩))]) fun u w' hI hR=>?_;dsimp only [frm,List.foldl,List.replicate,List.set];obtain ⟨_,hI⟩:=hI;have k2:=keep_cell_chg hI.1 x0 nx2;have k3:=keep_cell_chg hI.1 x1 nx2;have k4:=keep_cell_chg hI.1 x2 nx2;clear hI hst hR;go_wp2;exact ⟨rfl,_,rfl,rfl,rfl⟩
         ·refine Owes.mk _ rfl rfl (fun _ _ h=>by cases h) fun u m w' hm hI hR=>⟨⟨(frm 111 [(8,.pointer (some ⟨bs+1+1,0,none⟩)),(109,u 0)]).toArray,[]⟩,rfl,fun d hd=>(by cases hd),?_⟩;dsimp only [frm,List.foldl,List.replicate,List.set];have e0:u 0=_:=hR 0 (by decide);rw [e0];clear e0;obtain ⟨hc,hr⟩:=hI;obtain ⟨u0,p0⟩:=hr.2.1 0 (by omega);obtain ⟨u1,p1⟩:=hr.2.1 1 (by omega);have f0:=hr.2.2 0;have f1:=hr.2.2 1;have HCc:=Lib.hid hc;have HRr:=Lib.hid hr;clear hc hr hst hR;go_wp2;exact ⟨rfl,undef,rfl,FCs.two (v:=undef) p0 p1,⟨HCc.out.trans' ((store_chg _).trans' (store_chg _)),(HRr.out.set (by omega)).set (by omega)⟩,fun j x h=>by match j,h with|0,h=>exact h|1,h=>exact h|2,_=>exact FCs.two (v:=undef) p0 p1|(j+3),_=>trivial⟩
        case hend =>
         intro u w' hI hR;simp only [setAll,List.set_cons_zero,List.set_cons_succ];have e1:u 1=_:=hR 1 (by decide);rw [e1];have q:=(hR 2 (by decide):FCs _ _ _ _);have q0:=q 0 (by simp);have q1:=q 1 (by simp);simp only [List.getElem_cons_zero,List.getElem_cons_succ] at q0 q1;obtain ⟨hc,-⟩:=hI;obtain ⟨zq,p3,g3⟩:=HDb.out.q3.chg hc (by simp);obtain ⟨u0,p30⟩:=p3 0 (by omega);obtain ⟨u1,p31⟩:=p3 1 (by omega);obtain ⟨u2,p32⟩:=p3 2 (by omega);have g30:=g3 0;have g31:=g3 1;have g32:=g3 2;have HCc:=Lib.hid hc;clear hR hst e1 hc p3 g3 q s0 s1 x0 x1 x2 Q2;go_wp2;obtain ⟨t0,t1,t2,t3⟩:=fin3 (.int .i64 r.id) (.int .i64 2) (.slice none 0 0) p30 p31 p32;have nq:bs+1+1∉[bs+1+1+1]:=by simp
         have q0f:=keep_cell_chg t3 q0 nq;have q1f:=keep_cell_chg t3 q1 nq;refine bodyPost_ret (v:=.tuple #[.agg #[.slice aw nw cw,.slice (some ⟨bh,oh,none⟩) 6 ch],.agg #[.int .i64 r.id,.int .i64 2,.slice none 0 0]]) (by simp [results,Try.results133,go_sem,t0,t1,t2,q0f,q1f]) rfl ?_;rw [HR.out];exact HDb.out.done (R:=⟨_,_,_,_⟩) HC.out ⟨none,0,0,rfl,rfl,Nat.le_refl _,Nat.zero_le _,.inl ⟨rfl,rfl⟩⟩ (New.nil _ _) (fun c hm=>by simp at hm) HCc.out t3
       ·have HR:=Lib.hid (HZ.out hne);clear HY HZ;go_upto_region 22 with fail
        have Q2:=HD6.out.q2;have s0:=HD6.out.s0;have s1:=HD6.out.s1;have x0:=HX6.out.x0;have x1:=HX6.out.x1;have x2:=HX6.out.x2;have hst:∀ F,F∈[FEq (.agg #[.slice aw nw cw,.slice (some ⟨bh,oh,none⟩) 6 ch]),FEq (.agg #[.int .i64 r.id,.int .i64 1,.slice none 0 0]),FCs (bs+1+1) [.slice aw nw cw,.slice (some ⟨bh,oh,none⟩) 6 ch]]->Stable [] F:=by
         simp only [List.forall_mem_cons];exact ⟨stEq _ _,stEq _ _,stCs _ _,fun _ h=>by simp at h⟩
        refine wp_region_tail (by kernel_rfl) (fun i=>(tbl4Do22:List (List Nat)).getD i []) (facts [FEq (.agg #[.slice aw nw cw,.slice (some ⟨bh,oh,none⟩) 6 ch]),FEq (.agg #[.int .i64 r.id,.int .i64 1,.slice none 0 0]),FCs (bs+1+1) [.slice aw nw cw,.slice (some ⟨bh,oh,none⟩) 6 ch]]) (fun m w'=>Chg [bs+1+1] w6 w'∧RoomAt (bs+1+1) 2 w') 111 4 3 [some 94,some 95,none] _ rfl rfl (by decide) rfl rfl (by kernel_rfl) (by kernel_rfl) [] (by kernel_rfl) (fun g b hm v w h=>by simp at hm) ?h0 (all_lt (n:=3) ?hop) ?hend
        case h0=>exact ⟨(Chg.refl _ _).drewN 1,Q2⟩
        case hop =>
         refine ⟨⟨⟨trivial,?_⟩,?_⟩,?_⟩
         ·refine Owes.q 111 (fun u=>[(5,.pointer (some ⟨bs,0,none⟩))]) fun u w' hI hR=>?_;dsimp only [frm,List.foldl,List.replicate,List.set];obtain ⟨_,hI⟩:=hI;have k0:=keep_cell_chg hI.1 s0 ns2;have k1:=keep_cell_chg hI.1 s1 ns2;clear hI hst hR;go_wp2;exact ⟨rfl,_,rfl,rfl,rfl⟩
         ·refine Owes.q 111 (fun u=>[(12,.pointer (some ⟨X,0,none⟩))]) fun u w' hI hR=>?_;dsimp only [frm,List.foldl,List.replicate,List.set];obtain ⟨_,hI⟩:=hI;have k2:=keep_cell_chg hI.1 x0 nx2;have k3:=keep_cell_chg hI.1 x1 nx2;have k4:=keep_cell_chg hI.1 x2 nx2;clear hI hst hR;go_wp2;exact ⟨rfl,_,rfl,rfl,rfl⟩
         ·refine Owes.mk _ rfl rfl (fun _ _ h=>by cases h) fun u m w' hm hI hR=>⟨⟨(frm 111 [(8,.pointer (some ⟨bs+1+1,0,none⟩)),(94,u 0)]).toArray,[]⟩,rfl,fun d hd=>(by cases hd),?_⟩;dsimp only [frm,List.foldl,List.replicate,List.set];have e0:u 0=_:=hR 0 (by decide);rw [e0];clear e0;obtain ⟨hc,hr⟩:=hI;obtain ⟨u0,p0⟩:=hr.2.1 0 (by omega);obtain ⟨u1,p1⟩:=hr.2.1 1 (by omega);have f0:=hr.2.2 0;have f1:=hr.2.2 1;have HCc:=Lib.hid hc;have HRr:=Lib.hid hr;clear hc hr hst hR;go_wp2;exact ⟨rfl,undef,rfl,FCs.two (v:=undef) p0 p1,⟨HCc.out.trans' ((store_chg _).trans' (store_chg _)),(HRr.out.set (by omega)).set (by omega)⟩,fun j x h=>by match j,h with|0,h=>exact h|1,h=>exact h|2,_=>exact FCs.two (v:=undef) p0 p1|(j+3),_=>trivial⟩
        case hend =>
         intro u w' hI hR;simp only [setAll,List.set_cons_zero,List.set_cons_succ];have e1:u 1=_:=hR 1 (by decide);rw [e1];have q:=(hR 2 (by decide):FCs _ _ _ _);have q0:=q 0 (by simp);have q1:=q 1 (by simp);simp only [List.getElem_cons_zero,List.getElem_cons_succ] at q0 q1;obtain ⟨hc,-⟩:=hI;obtain ⟨zq,p3,g3⟩:=HD6.out.q3.chg hc (by simp);obtain ⟨u0,p30⟩:=p3 0 (by omega);obtain ⟨u1,p31⟩:=p3 1 (by omega);obtain ⟨u2,p32⟩:=p3 2 (by omega);have g30:=g3 0;have g31:=g3 1;have g32:=g3 2;have HCc:=Lib.hid hc;clear hR hst e1 hc p3 g3 q s0 s1 x0 x1 x2 Q2;go_wp2;obtain ⟨t0,t1,t2,t3⟩:=fin3 (.int .i64 r.id) (.int .i64 1) (.slice none 0 0) p30 p31 p32;have nq:bs+1+1∉[bs+1+1+1]:=by simp
         have q0f:=keep_cell_chg t3 q0 nq;have q1f:=keep_cell_chg t3 q1 nq;refine bodyPost_ret (v:=.tuple #[.agg #[.slice aw nw cw,.slice (some ⟨bh,oh,none⟩) 6 ch],.agg #[.int .i64 r.id,.int .i64 1,.slice none 0 0]]) (by simp [results,Try.results133,go_sem,t0,t1,t2,q0f,q1f]) rfl ?_;rw [HR.out];exact HD6.out.done (R:=⟨_,_,_,_⟩) HC.out ⟨none,0,0,rfl,rfl,Nat.le_refl _,Nat.zero_le _,.inl ⟨rfl,rfl⟩⟩ (New.nil _ _) (fun c hm=>by simp at hm) HCc.out t3
     ·have hR:atmDo l ms hs who r=⟨l2put ms (burstOf r) r.data r.lanes,freeH hs (burstOf r),1,[]⟩:=atmDo_write (Int.not_lt.2 HNEG.out) HDEN.out (by rw [HKD.out];exact hk1) (by rw [HKD.out];exact hk3) (by rw [HKD.out];exact hk4);have HR:=Lib.hid hR;obtain ⟨hdl,hll⟩:=HLEN.out HADR.out (by rw [HKD.out];exact hk1) (by rw [HKD.out];exact hk3);have hbl:=burstOf_len HADR.out;have HDL:Hid (r.data.length=(burstOf r).length):=Lib.hid (by omega);have HLL:Hid (r.lanes.length=(burstOf r).length):=Lib.hid (by omega);have q1:(kd == 1)=false:=by simpa using hk1
      have q3:(kd == 3)=false:=by simpa using hk3
      have q4:(kd == 4)=false:=by simpa using hk4
      have HDp:=Lib.hid HD5.out;have HXp:=Lib.hid HX5.out;have HGp:=Lib.hid HG5.out;clear hR hdl hll hbl HD5 HX5 HG5 hk1 hk3 hk4 x1 f1;have w7:=w5;rcases hgo with rfl|⟨rfl,rfl⟩
      ·go_upto_region 12 with fail
       clear q1 q3 q4 k0 k1;have s0:=HDp.out.s0;have k5:=HDp.out.k5;have k6:=HDp.out.k6;go_wp2_with fail
       refine (l2Put_any ms (burstOf r) r.data r.lanes _ _ _ _ fw fa f0 _ HMS.out HLE.out HDL.out HLL.out (burstOf_in HADR.out) _ HDp.out.mem HGp.out HDp.out.dat HDp.out.lan (fun c hm=>HDp.out.fr c (by simp [hm])) (fun c hm hn=>by have:=HNA.out c hm;have:=HC.out.lw c (by simp [hn]);omega) (fun c hm hn=>HC.out.n0 c hm (by simp [hn])) (fun c hm hn=>HC.out.n1 c hm (by simp [hn]))).mono ?_;rintro e w8 ⟨rfl,g8,c8,fr8⟩;have hfa8:∀ c,c∈fa->c∉fw:=fun c hm hn=>by have:=HNA.out c hm;have:=HC.out.lw c (by simp [hn]);omega
       have hlh:∀ c,c∈fh->c<_:=fun c hm=>SlR.lt intR_fits HDp.out.hol c hm;have hnh:∀ c,c∈fh->c∉fw:=fun c hm hn=>HC.out.dj c hn hm;have HD8:=Lib.hid (HDp.out.turn HC.out c8 (fun c hm=>.inl (by simp [hm])) g8 (HDp.out.hol.chg intR_fits c8 hnh) (Free.app' fr8 (Free.chg (fun c hm=>HDp.out.fr c (by simp [hm])) hlh c8 hnh)));have HX8:=Lib.hid (HXp.out.chg c8 (fun hm=>hXn (by simp [hm])));have HG8:=Lib.hid (SlR.chg intR_fits HGp.out c8 hfa8);clear g8 c8 fr8 hfa8 hlh hnh s0 k5 k6 HDp HXp HGp;have s0:=HD8.out.s0;have fs0:=HD8.out.fs 0;go_upto_region 13 with fail
       obtain ⟨w9,hw9⟩:∃ z,z=w8.setCell ⟨bs,0,none⟩ (.slice aw nw cw):=⟨_,rfl⟩;rw [<- hw9];have ch9:Chg [bs] w8 w9:=by rw [hw9];exact store_chg _
       have HD9:=Lib.hid (by rw [hw9];exact HD8.out.again HC.out (.inl ⟨rfl,rfl⟩):DoW bs w l r _ _ _ _ _ fm fw fh _ _ _ _ w9);have nxb:X∉[bs]:=by simp;omega
       have HX9:=Lib.hid (HX8.out.chg ch9 nxb);have HG9:=Lib.hid (SlR.chg intR_fits HG8.out ch9 (fun c hm e=>by have:=HNA.out c hm;simp at e;omega));clear hw9 ch9 s0 fs0 HD8 HX8 HG8;have s0:=HD9.out.s0;have s1:=HD9.out.s1;go_wp2_with fail
       refine (l4Free_any hs (burstOf r) _ _ _ _ _ fh fa HHS.out HLE.out _ HD9.out.hol HG9.out (fun c hm=>HD9.out.fr c (by simp [hm])) (fun c hm hn=>by have:=HNA.out c hm;have:=HC.out.lw c (by simp [hn]);omega)).mono ?_;rintro e wa ⟨rfl,ga,ca_,fra⟩;have hlw:∀ c,c∈fw->c<_:=fun c hm=>SlR.lt intR_fits HD9.out.mem c hm;have HDa:=Lib.hid (HD9.out.turn HC.out ca_ (fun c hm=>.inl (by simp [hm])) (HD9.out.mem.chg intR_fits ca_ (fun c hm=>HC.out.dj c hm)) ga (Free.app' (Free.chg (fun c hm=>HD9.out.fr c (by simp [hm])) hlw ca_ (fun c hm=>HC.out.dj c hm)) fra));have HXa:=Lib.hid (HX9.out.chg ca_ (fun hm=>hXn (by simp [hm])));clear ga ca_ fra hlw s0 s1 HD9 HX9 HG9;have s0:=HDa.out.s0;have s1:=HDa.out.s1;have fs0:=HDa.out.fs 0;have fs1:=HDa.out.fs 1;go_upto_region 26 with fail
       obtain ⟨wb,hwb⟩:∃ z,z=(wa.setCell ⟨bs,0,none⟩ (.slice aw nw cw)).setCell ⟨bs,1,none⟩ (.slice ah nh ch):=⟨_,rfl⟩;rw [<- hwb];have chb:Chg [bs] wa wb:=by rw [hwb];exact (store_chg _).trans' (store_chg _)
       have HDb:=Lib.hid (by rw [hwb];exact (HDa.out.again HC.out (.inl ⟨rfl,rfl⟩)).again HC.out (.inr ⟨rfl,rfl⟩):DoW bs w l r _ _ _ _ _ fm fw fh _ _ _ _ wb);have HXb:=Lib.hid (HXa.out.chg chb nxb);clear hwb chb s0 s1 fs0 fs1 HDa HXa;have Q2:=HDb.out.q2;have s0:=HDb.out.s0;have s1:=HDb.out.s1;have x0:=HXb.out.x0;have x1:=HXb.out.x1;have x2:=HXb.out.x2;have hst:∀ F,F∈[FEq (.agg #[.slice aw nw cw,.slice ah nh ch]),FEq (.agg #[.int .i64 r.id,.int .i64 1,.slice none 0 0]),FCs (bs+1+1) [.slice aw nw cw,.slice ah nh ch]]->Stable [] F:=by
        simp only [List.forall_mem_cons];exact ⟨stEq _ _,stEq _ _,stCs _ _,fun _ h=>by simp at h⟩
       refine wp_region_tail (by kernel_rfl) (fun i=>(tbl4Do26:List (List Nat)).getD i []) (facts [FEq (.agg #[.slice aw nw cw,.slice ah nh ch]),FEq (.agg #[.int .i64 r.id,.int .i64 1,.slice none 0 0]),FCs (bs+1+1) [.slice aw nw cw,.slice ah nh ch]]) (fun m w'=>Chg [bs+1+1] wb w'∧RoomAt (bs+1+1) 2 w') 111 4 3 [some 109,some 110,none] _ rfl rfl (by decide) rfl rfl (by kernel_rfl) (by kernel_rfl) [] (by kernel_rfl) (fun g b hm v w h=>by simp at hm) ?h0 (all_lt (n:=3) ?hop) ?hend
       case h0=>exact ⟨(Chg.refl _ _).drewN 1,Q2⟩
       case hop =>
        refine ⟨⟨⟨trivial,?_⟩,?_⟩,?_⟩
        ·refine Owes.q 111 (fun u=>[(5,.pointer (some ⟨bs,0,none⟩))]) fun u w' hI hR=>?_;dsimp only [frm,List.foldl,List.replicate,List.set];obtain ⟨_,hI⟩:=hI;have k0:=keep_cell_chg hI.1 s0 ns2;have k1:=keep_cell_chg hI.1 s1 ns2;clear hI hst hR;go_wp2;exact ⟨rfl,_,rfl,rfl,rfl⟩
        ·refine Owes.q 111 (fun u=>[(12,.pointer (some ⟨X,0,none⟩))]) fun u w' hI hR=>?_;dsimp only [frm,List.foldl,List.replicate,List.set];obtain ⟨_,hI⟩:=hI;have k2:=keep_cell_chg hI.1 x0 nx2;have k3:=keep_cell_chg hI.1 x1 nx2;have k4:=keep_cell_chg hI.1 x2 nx2;clear hI hst hR;go_wp2;exact ⟨rfl,_,rfl,rfl,rfl⟩
        ·refine Owes.mk _ rfl rfl (fun _ _ h=>by cases h) fun u m w' hm hI hR=>⟨⟨(frm 111 [(8,.pointer (some ⟨bs+1+1,0,none⟩)),(109,u 0)]).toArray,[]⟩,rfl,fun d hd=>(by cases hd),?_⟩;dsimp only [frm,List.foldl,List.replicate,List.set];have e0:u 0=_:=hR 0 (by decide);rw [e0];clear e0;obtain ⟨hc,hr⟩:=hI;obtain ⟨u0,p0⟩:=hr.2.1 0 (by omega);obtain ⟨u1,p1⟩:=hr.2.1 1 (by omega);have f0:=hr.2.2 0;have f1:=hr.2.2 1;have HCc:=Lib.hid hc;have HRr:=Lib.hid hr;clear hc hr hst hR;go_wp2;exact ⟨rfl,undef,rfl,FCs.two (v:=undef) p0 p1,⟨HCc.out.trans' ((store_chg _).trans' (store_chg _)),(HRr.out.set (by omega)).set (by omega)⟩,fun j x h=>by match j,h with|0,h=>exact h|1,h=>exact h|2,_=>exact FCs.two (v:=undef) p0 p1|(j+3),_=>trivial⟩
       case hend =>
        intro u w' hI hR;simp only [setAll,List.set_cons_zero,List.set_cons_succ];have e1:u 1=_:=hR 1 (by decide);rw [e1];have q:=(hR 2 (by decide):FCs _ _ _ _);have q0:=q 0 (by simp);have q1:=q 1 (by simp);simp only [List.getElem_cons_zero,List.getElem_cons_succ] at q0 q1;obtain ⟨hc,-⟩:=hI;obtain ⟨zq,p3,g3⟩:=HDb.out.q3.chg hc (by simp);obtain ⟨u0,p30⟩:=p3 0 (by omega);obtain ⟨u1,p31⟩:=p3 1 (by omega);obtain ⟨u2,p32⟩:=p3 2 (by omega);have g30:=g3 0;have g31:=g3 1;have g32:=g3 2;have HCc:=Lib.hid hc;clear hR hst e1 hc p3 g3 q s0 s1 x0 x1 x2 Q2;go_wp2;obtain ⟨t0,t1,t2,t3⟩:=fin3 (.int .i64 r.id) (.int .i64 1) (.slice none 0 0) p30 p31 p32;have nq:bs+1+1∉[bs+1+1+1]:=by simp
        have q0f:=keep_cell_chg t3 q0 nq;have q1f:=keep_cell_chg t3 q1 nq;refine bodyPost_ret (v:=.tuple #[.agg #[.slice aw nw cw,.slice ah nh ch],.agg #[.int .i64 r.id,.int .i64 1,.slice none 0 0]]) (by simp [results,Try.results133,go_sem,t0,t1,t2,q0f,q1f]) rfl ?_;rw [HR.out];exact HDb.out.done (R:=⟨_,_,_,_⟩) HC.out ⟨none,0,0,rfl,rfl,Nat.le_refl _,Nat.zero_le _,.inl ⟨rfl,rfl⟩⟩ (New.nil _ _) (fun c hm=>by simp at hm) HCc.out t3
      ·go_upto_region 12 with fail
       clear q1 q3 q4 k0 k1;have s0:=HDp.out.s0;have k5:=HDp.out.k5;have k6:=HDp.out.k6;go_wp2_with fail
       refine (l2Put_any ms (burstOf r) r.data r.lanes _ _ _ _ fw fa f0 _ HMS.out HLE.out HDL.out HLL.out (burstOf_in HADR.out) _ HDp.out.mem HGp.out HDp.out.dat HDp.out.lan (fun c hm=>HDp.out.fr c (by simp [hm])) (fun c hm hn=>by have:=HNA.out c hm;have:=HC.out.lw c (by simp [hn]);omega) (fun c hm hn=>HC.out.n0 c hm (by simp [hn])) (fun c hm hn=>HC.out.n1 c hm (by simp [hn]))).mono ?_;rintro e w8 ⟨rfl,g8,c8,fr8⟩;have hfa8:∀ c,c∈fa->c∉fw:=fun c hm hn=>by have:=HNA.out c hm;have:=HC.out.lw c (by simp [hn]);omega
       have hlh:∀ c,c∈fh->c<_:=fun c hm=>SlR.lt intR_fits HDp.out.hol c hm;have hnh:∀ c,c∈fh->c∉fw:=fun c hm hn=>HC.out.dj c hn hm;have HD8:=Lib.hid (HDp.out.turn HC.out c8 (fun c hm=>.inl (by simp [hm])) g8 (HDp.out.hol.chg intR_fits c8 hnh) (Free.app' fr8 (Free.chg (fun c hm=>HDp.out.fr c (by simp [hm])) hlh c8 hnh)));have HX8:=Lib.hid (HXp.out.chg c8 (fun hm=>hXn (by simp [hm])));have HG8:=Lib.hid (SlR.chg intR_fits HGp.out c8 hfa8);clear g8 c8 fr8 hfa8 hlh hnh s0 k5 k6 HDp HXp HGp;have s0:=HD8.out.s0;have fs0:=HD8.out.fs 0;go_upto_region 13 with fail
       obtain ⟨w9,hw9⟩:∃ z,z=w8.setCell ⟨bs,0,none⟩ (.slice aw nw cw):=⟨_,rfl⟩;rw [<- hw9];have ch9:Chg [bs] w8 w9:=by rw [hw9];exact store_chg _
       have HD9:=Lib.hid (by rw [hw9];exact HD8.out.again HC.out (.inl ⟨rfl,rfl⟩):DoW bs w l r _ _ _ _ _ fm fw fh _ _ _ _ w9);have nxb:X∉[bs]:=by simp;omega
       have HX9:=Lib.hid (HX8.out.chg ch9 nxb);have HG9:=Lib.hid (SlR.chg intR_fits HG8.out ch9 (fun c hm e=>by have:=HNA.out c hm;simp at e;omega));clear hw9 ch9 s0 fs0 HD8 HX8 HG8;have s0:=HD9.out.s0;have s1:=HD9.out.s1;go_wp2_with fail
       refine (l4Free_any hs (burstOf r) _ _ _ _ _ fh fa HHS.out HLE.out _ HD9.out.hol HG9.out (fun c hm=>HD9.out.fr c (by simp [hm])) (fun c hm hn=>by have:=HNA.out c hm;have:=HC.out.lw c (by simp [hn]);omega)).mono ?_;rintro e wa ⟨rfl,ga,ca_,fra⟩;have hlw:∀ c,c∈fw->c<_:=fun c hm=>SlR.lt intR_fits HD9.out.mem c hm;have HDa:=Lib.hid (HD9.out.turn HC.out ca_ (fun c hm=>.inl (by simp [hm])) (HD9.out.mem.chg intR_fits ca_ (fun c hm=>HC.out.dj c hm)) ga (Free.app' (Free.chg (fun c hm=>HD9.out.fr c (by simp [hm])) hlw ca_ (fun c hm=>HC.out.dj c hm)) fra));have HXa:=Lib.hid (HX9.out.chg ca_ (fun hm=>hXn (by simp [hm])));clear ga ca_ fra hlw s0 s1 HD9 HX9 HG9;have s0:=HDa.out.s0;have s1:=HDa.out.s1;have fs0:=HDa.out.fs 0;have fs1:=HDa.out.fs 1;go_upto_region 26 with fail
       obtain ⟨wb,hwb⟩:∃ z,z=(wa.setCell ⟨bs,0,none⟩ (.slice aw nw cw)).setCell ⟨bs,1,none⟩ (.slice ah nh ch):=⟨_,rfl⟩;rw [<- hwb];have chb:Chg [bs] wa wb:=by rw [hwb];exact (store_chg _).trans' (store_chg _)
       have HDb:=Lib.hid (by rw [hwb];exact (HDa.out.again HC.out (.inl ⟨rfl,rfl⟩)).again HC.out (.inr ⟨rfl,rfl⟩):DoW bs w l r _ _ _ _ _ fm fw fh _ _ _ _ wb);have HXb:=Lib.hid (HXa.out.chg chb nxb);clear hwb chb s0 s1 fs0 fs1 HDa HXa;have Q2:=HDb.out.q2;have s0:=HDb.out.s0;have s1:=HDb.out.s1;have x0:=HXb.out.x0;have x1:=HXb.out.x1;have x2:=HXb.out.x2;have hst:∀ F,F∈[FEq (.agg #[.slice aw nw cw,.slice ah nh ch]),FEq (.agg #[.int .i64 r.id,.int .i64 1,.slice none 0 0]),FCs (bs+1+1) [.slice aw nw cw,.slice ah nh ch]]->Stable [] F:=by
        simp only [List.forall_mem_cons];exact ⟨stEq _ _,stEq _ _,stCs _ _,fun _ h=>by simp at h⟩
       refine wp_region_tail (by kernel_rfl) (fun i=>(tbl4Do26:List (List Nat)).getD i []) (facts [FEq (.agg #[.slice aw nw cw,.slice ah nh ch]),FEq (.agg #[.int .i64 r.id,.int .i64 1,.slice none 0 0]),FCs (bs+1+1) [.slice aw nw cw,.slice ah nh ch]]) (fun m w'=>Chg [bs+1+1] wb w'∧RoomAt (bs+1+1) 2 w') 111 4 3 [some 109,some 110,none] _ rfl rfl (by decide) rfl rfl (by kernel_rfl) (by kernel_rfl) [] (by kernel_rfl) (fun g b hm v w h=>by simp at hm) ?h0 (all_lt (n:=3) ?hop) ?hend
       case h0=>exact ⟨(Chg.refl _ _).drewN 1,Q2⟩
       case hop =>
        refine ⟨⟨⟨trivial,?_⟩,?_⟩,?_⟩
        ·refine Owes.q 111 (fun u=>[(5,.pointer (some ⟨bs,0,none⟩))]) fun u w' hI hR=>?_;dsimp only [frm,List.foldl,List.replicate,List.set];obtain ⟨_,hI⟩:=hI;have k0:=keep_cell_chg hI.1 s0 ns2;have k1:=keep_cell_chg hI.1 s1 ns2;clear hI hst hR;go_wp2;exact ⟨rfl,_,rfl,rfl,rfl⟩
        ·refine Owes.q 111 (fun u=>[(12,.pointer (some ⟨X,0,none⟩))]) fun u w' hI hR=>?_;dsimp only [frm,List.foldl,List.replicate,List.set];obtain ⟨_,hI⟩:=hI;have k2:=keep_cell_chg hI.1 x0 nx2;have k3:=keep_cell_chg hI.1 x1 nx2;have k4:=keep_cell_chg hI.1 x2 nx2;clear hI hst hR;go_wp2;exact ⟨rfl,_,rfl,rfl,rfl⟩
        ·refine Owes.mk _ rfl rfl (fun _ _ h=>by cases h) fun u m w' hm hI hR=>⟨⟨(frm 111 [(8,.pointer (some ⟨bs+1+1,0,none⟩)),(109,u 0)]).toArray,[]⟩,rfl,fun d hd=>(by cases hd),?_⟩;dsimp only [frm,List.foldl,List.replicate,List.set];have e0:u 0=_:=hR 0 (by decide);rw [e0];clear e0;obtain ⟨hc,hr⟩:=hI;obtain ⟨u0,p0⟩:=hr.2.1 0 (by omega);obtain ⟨u1,p1⟩:=hr.2.1 1 (by omega);have f0:=hr.2.2 0;have f1:=hr.2.2 1;have HCc:=Lib.hid hc;have HRr:=Lib.hid hr;clear hc hr hst hR;go_wp2;exact ⟨rfl,undef,rfl,FCs.two (v:=undef) p0 p1,⟨HCc.out.trans' ((store_chg _).trans' (store_chg _)),(HRr.out.set (by omega)).set (by omega)⟩,fun j x h=>by match j,h with|0,h=>exact h|1,h=>exact h|2,_=>exact FCs.two (v:=undef) p0 p1|(j+3),_=>trivial⟩
       case hend =>
        intro u w' hI hR;simp only [setAll,List.set_cons_zero,List.set_cons_succ];have e1:u 1=_:=hR 1 (by decide);rw [e1];have q:=(hR 2 (by decide):FCs _ _ _ _);have q0:=q 0 (by simp);have q1:=q 1 (by simp);simp only [List.getElem_cons_zero,List.getElem_cons_succ] at q0 q1;obtain ⟨hc,-⟩:=hI;obtain ⟨zq,p3,g3⟩:=HDb.out.q3.chg hc (by simp);obtain ⟨u0,p30⟩:=p3 0 (by omega);obtain ⟨u1,p31⟩:=p3 1 (by omega);obtain ⟨u2,p32⟩:=p3 2 (by omega);have g30:=g3 0;have g31:=g3 1;have g32:=g3 2;have HCc:=Lib.hid hc;clear hR hst e1 hc p3 g3 q s0 s1 x0 x1 x2 Q2;go_wp2;obtain ⟨t0,t1,t2,t3⟩:=fin3 (.int .i64 r.id) (.int .i64 1) (.slice none 0 0) p30 p31 p32;have nq:bs+1+1∉[bs+1+1+1]:=by simp
        have q0f:=keep_cell_chg t3 q0 nq;have q1f:=keep_cell_chg t3 q1 nq;refine bodyPost_ret (v:=.tuple #[.agg #[.slice aw nw cw,.slice ah nh ch],.agg #[.int .i64 r.id,.int .i64 1,.slice none 0 0]]) (by simp [results,Try.results133,go_sem,t0,t1,t2,q0f,q1f]) rfl ?_;rw [HR.out];exact HDb.out.done (R:=⟨_,_,_,_⟩) HC.out ⟨none,0,0,rfl,rfl,Nat.le_refl _,Nat.zero_le _,.inl ⟨rfl,rfl⟩⟩ (New.nil _ _) (fun c hm=>by simp at hm) HCc.out t3
end Go.Proofs.Ytmcjklicepaiaaa
