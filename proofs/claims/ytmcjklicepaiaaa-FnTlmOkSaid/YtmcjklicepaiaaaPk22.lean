/-
 Texts of this claim laid together: TOk9 OwnP Tr Own2.
-/
import Derived.Test.YtmcjklicepaiaaaPk21
set_option linter.unusedVariables false
set_option linter.unusedSimpArgs false
namespace Go.Proofs.Ytmcjklicepaiaaa
open Go.RowKit Go.Maps Go.WideMaps Go.ChangeShapes
set_option maxRecDepth 100000 in
set_option maxHeartbeats 12800000 in
theorem iTlmOk_any (x0:Bus) (v0 v1 v2:Value) (fp0 fp1 fp2:List Nat) (x1:Tlm) (s0 s1 s2 s3 s4 s5:Value) (fq0 fq1 fq2 fq3 fq4 fq5:List Nat) (w:World) (g0:SlR 4 mrR w x0.map v0 fp0) (g1:SlR 1 intR w x0.lat v1 fp1) (g2:SlR 1 (slR 7 reqR) w x0.progs v2 fp2)
 (h0:SlR 1 intR w x1.atm.mem s0 fq0) (h1:SlR 1 intR w x1.atm.holds s1 fq1) (h2:SlR 1 intR w x1.asked s2 fq2) (h3:SlR 5 jobR w x1.wait s3 fq3) (h4:SlR 5 jobR w x1.done s4 fq4) (h5:SlR 5 jobR w x1.told s5 fq5) :
 Calls Try.prog 36 #[.agg #[v0,v1,v2],.agg #[s0,s1,s2,s3,s4,s5]] w fun e w'=>e = .returned (.bool (tlmOk x0 x1))∧Below w.heap.size w w':=by
 obtain ⟨w1,hw1⟩:∃ z,z=(w.alloc (.cells #[v0,v1,v2] 38)).alloc (.cells #[s0,s1,s2,s3,s4,s5] 70):=⟨_,rfl⟩;have b1:Below w.heap.size w w1:=by rw [hw1];exact (below_alloc _ _).trans ((below_alloc _ _).mono (by simp))
 have X0:w1.cell? ⟨w.heap.size,0,none⟩=some (v0):=by rw [hw1];exact alloc_keep (alloc1_new _ _ _ 0 rfl) _
 have X1:w1.cell? ⟨w.heap.size,1,none⟩=some (v1):=by rw [hw1];exact alloc_keep (alloc1_new _ _ _ 1 rfl) _
 have X2:w1.cell? ⟨w.heap.size,2,none⟩=some (v2):=by rw [hw1];exact alloc_keep (alloc1_new _ _ _ 2 rfl) _
 have S0:w1.cell? ⟨w.heap.size+1,0,none⟩=some (s0):=by rw [hw1];exact alloc2_new _ _ _ _ _ 0 rfl
 have S1:w1.cell? ⟨w.heap.size+1,1,none⟩=some (s1):=by rw [hw1];exact alloc2_new _ _ _ _ _ 1 rfl
 have S2:w1.cell? ⟨w.heap.size+1,2,none⟩=some (s2):=by rw [hw1];exact alloc2_new _ _ _ _ _ 2 rfl
 have S3:w1.cell? ⟨w.heap.size+1,3,none⟩=some (s3):=by rw [hw1];exact alloc2_new _ _ _ _ _ 3 rfl
 have S4:w1.cell? ⟨w.heap.size+1,4,none⟩=some (s4):=by rw [hw1];exact alloc2_new _ _ _ _ _ 4 rfl
 have S5:w1.cell? ⟨w.heap.size+1,5,none⟩=some (s5):=by rw [hw1];exact alloc2_new _ _ _ _ _ 5 rfl
 have G0:=Lib.hid (SlR.below mrR_fits g0 b1);have G1:=Lib.hid (SlR.below intR_fits g1 b1);have G2:=Lib.hid (SlR.below (slR_fits reqR_fits) g2 b1);have H0:=Lib.hid (SlR.below intR_fits h0 b1);have H1:=Lib.hid (SlR.below intR_fits h1 b1);have H2:=Lib.hid (SlR.below intR_fits h2 b1);have H3:=Lib.hid (SlR.below jobR_fits h3 b1);have H4:=Lib.hid (SlR.below jobR_fits h4 b1);have H5:=Lib.hid (SlR.below jobR_fits h5 b1);have B:=Lib.hid b1;clear g0 g1 g2 h0 h1 h2 h3 h4 h5 b1;cases q:busOk x0
 ·have Q:=Lib.hid q;clear q;go_enter Try.func36,Try.ntmps36
  go_upto_region 1 with fail
  rw [<- hw1];clear hw1;go_wp2_with fail
  refine (iBusOk_any x0 _ _ _ fp0 fp1 fp2 _ G0.out G1.out G2.out).mono ?_;rw [Q.out];rintro e w2 ⟨rfl,b⟩;replace B:=Lib.hid (B.out.trans (b.mono B.out.size));clear b;go_wp2;go_ret;exact ⟨ret_bool (by rw [tlmOk_eq,Q.out];rfl),B.out⟩
 ·have Q:=Lib.hid q;clear q;go_enter Try.func36,Try.ntmps36
  go_upto_region 1 with fail
  rw [<- hw1];clear hw1;go_wp2_with fail
  refine (iBusOk_any x0 _ _ _ fp0 fp1 fp2 _ G0.out G1.out G2.out).mono ?_;rw [Q.out];rintro e w2 ⟨rfl,b⟩;replace G2:=Lib.hid (SlR.below (slR_fits reqR_fits) G2.out b);replace H0:=Lib.hid (SlR.below intR_fits H0.out b);replace H1:=Lib.hid (SlR.below intR_fits H1.out b);replace H2:=Lib.hid (SlR.below intR_fits H2.out b);replace H3:=Lib.hid (SlR.below jobR_fits H3.out b);replace H4:=Lib.hid (SlR.below jobR_fits H4.out b);replace H5:=Lib.hid (SlR.below jobR_fits H5.out b);replace X0:=keep_cell b X0;replace X1:=keep_cell b X1;replace X2:=keep_cell b X2;replace S0:=keep_cell b S0;replace S1:=keep_cell b S1;replace S2:=keep_cell b S2;replace S3:=keep_cell b S3;replace S4:=keep_cell b S4;replace S5:=keep_cell b S5;replace B:=Lib.hid (B.out.trans (b.mono B.out.size));clear b;go_wp2_with fail
  refine (tlmOkI_any x0 Q.out _ _ _ fp2 x1 _ _ _ _ _ _ fq0 fq1 fq2 fq3 fq4 fq5 _ G2.out H0.out H1.out H2.out H3.out H4.out H5.out).mono ?_;rintro e w3 ⟨rfl,b⟩;replace B:=Lib.hid (B.out.trans (b.mono B.out.size));clear b;go_wp2;go_ret;exact ⟨ret_bool (by rw [tlmOk_eq,Q.out,Bool.true_and]),B.out⟩
end Go.Proofs.Ytmcjklicepaiaaa
namespace Go.Proofs.Ytmcjklicepaiaaa
open Go.RowKit Go.WideShapes
abbrev CellsK (K:Nat):={L:List Value // L.length=K}
def cellsK {K:Nat} (x:CellsK K):List Value:=x.1
theorem cellsK_len {K:Nat} (x:CellsK K):(cellsK x).length=K:=x.2
variable {α:Type} {K:Nat} {R:Pr α} {e:TypeId} {w w':World} {base:Nat} {v:Value} {l:List α}
structure OwnP (K:Nat) (R:Pr α) (e:TypeId) (base:Nat) (w:World) (v:Value) (l:List α) (rows:List (CellsK K)) (fps:List (List Nat)):Prop where
 own:OwnR K cellsK e base w v rows
 len:rows.length=l.length
 lenf:fps.length=l.length
 els:∀ i (h:i<l.length) (h1:i<rows.length) (h2:i<fps.length),R w l[i] rows[i].1 fps[i]
 lo:∀ b,b∈fps.flatten->base<=b
 once:fps.flatten.Nodup
 free:Free fps.flatten w
 apart:∀ b,v.ownBlock=some b->b∉fps.flatten
def OwnE (K:Nat) (R:Pr α) (e:TypeId) (base:Nat) (w:World) (v:Value) (l:List α):Prop:=∃ rows fps,OwnP K R e base w v l rows fps
theorem OwnP.lt (F:Fits K R) {rows:List (CellsK K)} {fps:List (List Nat)} (h:OwnP K R e base w v l rows fps):∀ b,b∈fps.flatten->b<w.heap.size:=by
 intro b hb;obtain ⟨f,hf,hbf⟩:=List.mem_flatten.1 hb;obtain ⟨i,hi,rfl⟩:=List.mem_iff_getElem.1 hf;have:=h.len;have:=h.lenf;exact F.lt (h.els i (by omega) (by omega) hi) b hbf
theorem OwnE.nil (w:World) (base:Nat):OwnE K R e base w (.slice none 0 0) [] :=
 ⟨[],[],OwnR.nil w base,rfl,rfl,fun i h=>absurd h (by simp),by simp,by simp,fun b hb=>by simp at hb,by simp⟩
theorem OwnE.lit (w:World) (hb:base<=w.heap.size):OwnE K R e base (w.alloc (.cells #[] e)) (.slice (some ⟨w.heap.size,0,none⟩) 0 0) [] :=
 ⟨[],[],OwnR.lit w #[] 0 [] cellsK_len rfl rfl hb (Nat.zero_le _),rfl,rfl,fun i h=>absurd h (by simp),by simp,by simp,fun b hb=>by simp at hb,by simp⟩
theorem OwnE.below (F:Fits K R) (h:OwnE K R e base w v l) (hb:Below w.heap.size w w'):OwnE K R e base w' v l:=by
 obtain ⟨rows,fps,h⟩:=h;exact ⟨rows,fps,h.own.below hb,h.len,h.lenf,fun i h0 h1 h2=>F.below (h.els i h0 h1 h2) hb,h.lo,h.once,h.free.below (h.lt F) hb,h.apart⟩
theorem OwnE.chg (F:Fits K R) {fq:List Nat} (h:OwnE K R e base w v l) (hc:Chg fq w w') (hf:∀ b,b∈fq->b<base):OwnE K R e base w' v l:=by
 obtain ⟨rows,fps,h⟩:=h;have hd:∀ b,b∈fps.flatten->b∉fq:=fun b hb hm=>by have:=h.lo b hb;have:=hf b hm;omega
 refine ⟨rows,fps,?_,h.len,h.lenf,fun i h0 h1 h2=>F.chg (h.els i h0 h1 h2) hc fun b hb=>hd b (List.mem_flatten.2 ⟨_,List.getElem_mem h2,hb⟩),h.lo,h.once,h.free.chg (h.lt F) hc hd,h.apart⟩;rcases h.own.2 with ⟨q,h0⟩|⟨g,cap,cur,q,hg,r⟩
 ·exact ⟨h.own.1,.inl ⟨q,h0⟩⟩
 ·have hgl:g<w.heap.size:=by
   rcases Nat.lt_or_ge g w.heap.size with hh|hh
   ·exact hh
   ·have:=r.1;simp [Array.getElem?_eq_none hh] at this
  exact ⟨h.own.1,.inr ⟨g,cap,cur,q,hg,(hc.block g hgl (fun hm=>by have:=hf g hm;omega)).trans r.1,r.2⟩⟩
theorem OwnE.lower {base':Nat} (h:OwnE K R e base w v l) (hb:base'<=base):OwnE K R e base' w v l:=by
 obtain ⟨rows,fps,h⟩:=h;exact ⟨rows,fps,h.own.lower hb,h.len,h.lenf,h.els,fun b hm=>Nat.le_trans hb (h.lo b hm),h.once,h.free,h.apart⟩
theorem OwnE.slice (h:OwnE K R e base w v l):∃ (a:Option Addr) (n cap:Nat),v = .slice a n cap∧l.length=n∧n<=cap∧cap<=maxLen:=by
 obtain ⟨rows,fps,h⟩:=h;obtain ⟨a,n,cap,e,h1,h2,h3⟩:=h.own.slice;exact ⟨a,n,cap,e,h.len.symm.trans h1,h2,h3⟩
theorem OwnE.reads (F:Fits K R) (h:OwnE K R e base w v l):∃ fp,SlR K R w l v fp∧(∀ b,b∈fp->base<=b)∧fp.Nodup∧Free fp w:=by
 obtain ⟨rows,fps,h⟩:=h;have hlen:=h.len;have hlenf:=h.lenf;have ho:=h.own;rcases h.own.2 with ⟨q,h0⟩|⟨g,cap,cur,q,hg,hcur,hnc,hcm,r⟩
 ·obtain rfl:l=[]:=List.eq_nil_of_length_eq_zero (by omega);exact ⟨[],⟨none,0,0,q,rfl,Nat.le_refl _,by simp,.inl ⟨rfl,rfl⟩⟩,by simp,List.nodup_nil,fun b hb=>by simp at hb⟩
 ·have hgl:g<w.heap.size:=by
   rcases Nat.lt_or_ge g w.heap.size with hh|hh
   ·exact hh
   ·simp [Array.getElem?_eq_none hh] at hcur
  have hgn:=h.apart g (by rw [q];rfl);rw [q] at ho;refine ⟨g::fps.flatten,⟨_,rows.length,cap,q,hlen.symm,hnc,hcm,.inr ⟨g,0,fps,rfl,hgl,rfl,hlenf,fun i hi hi'=>?_⟩⟩,fun b hb=>?_,List.nodup_cons.2 ⟨hgn,h.once⟩,fun b hb o=>?_⟩
  ·refine ⟨rows[i].1,h.els i hi (by omega) hi',fun j hj=>?_⟩;rw [Nat.zero_add];exact OwnR.cell cellsK_len ho (by omega) hj
  ·rcases List.mem_cons.1 hb with rfl|hb
   ·exact hg
   ·exact h.lo b hb
  ·rcases List.mem_cons.1 hb with rfl|hb
   ·exact OwnR.frozen ho o
   ·exact h.free b hb o
theorem OwnE.sl (F:Fits K R) (h:OwnE K R e base w v l):∃ fp,SlR K R w l v fp:=by
 obtain ⟨fp,h,_⟩:=h.reads F;exact ⟨fp,h⟩
theorem oneCells_flat {cs:List Value} {hcs:cs.length=K} (h:∀ u∈cs,u.oneCell'=true):∀ u∈[(⟨cs,hcs⟩:CellsK K)].flatMap cellsK,u.oneCell'=true:=by
 intro u hu;simp only [List.flatMap_cons,List.flatMap_nil,List.append_nil] at hu;exact h u hu
theorem wpList_pushP {P:Program} {ops:Array Oper} {rest:List Oper} {o:Oper} {a:Act} {Q:Exit->Act->World->Prop} {W:World} {c2:Nat} {A:Addr} {x:α} {cs:List Value} {f:List Nat}
 (hgd:o.guard=none) (s y:Operand) (t e:TypeId) (i:TypeInfo) (z:Value) (bytes:Nat) (F:Fits K R)
 (ho:o.op = .call { callee:=.builtin .append,args := #[s,y],argTypes := #[t,t] })
 (ht:P.underlying t=some (.slice e)) (hi:P.info? e=some i) (hz:i.zero=some z) (hsize:i.size=K) (hby:i.bytes=bytes) (hzs:z.cells.size=K) (hsz:0<K) (hb8:bytes<=128)
 (hs:a.eval s=v) (hy:a.eval y = .slice (some A) 1 c2) (hown:OwnE K R e base W v l) (hW:Below W.heap.size W w) (hR:R w x cs f) (hf:New f W w) (hcell:∀ j (hj:j<cs.length),w.cell? (A.add j)=some cs[j]) (h1:∀ u∈cs,u.oneCell'=true)
 (hn:l.length<=2000000) (hbase:base<=W.heap.size)
 (h:∀ v' w',OwnE K R e base w' v' (l++[x])->Below base W w'->Below base w w'->wpList P ops Q rest (a.put o.dst v') w') :
 wpList P ops Q (o::rest) a w:=by
 obtain ⟨rows,fps,hp⟩:=hown;have hlen:=hp.len;have hlenf:=hp.lenf;have hcl:=F.len hR;have hbw:base<=w.heap.size:=Nat.le_trans hbase hW.size;have hown':OwnR K cellsK e base w v rows:=hp.own.below hW;refine wpList_appendB (c:=cellsK) (news:=[⟨cs,hcl⟩]) hgd s y t e i z bytes cellsK_len ho ht hi hz hsize hby hzs hsz hb8 hs hy hown' rfl (by decide) ?_ (oneCells_flat h1) (by omega) (by omega) hbw ?_
 ·intro j u hj;simp only [List.flatMap_cons,List.flatMap_nil,List.append_nil] at hj;obtain ⟨hj1,hj2⟩:=List.getElem?_eq_some_iff.1 hj;rw [<- hj2];exact hcell j hj1
 ·intro v' w' ho' hgr hblk;have hbel:Below base w w':=grown_below hown' hgr hbw;have hkeep:∀ b,b<w.heap.size->v.ownBlock≠some b->w'.heap[b]?=w.heap[b]?:=fun b hb hne=>hgr.block b hb (fun q=>hne q.symm);have hflt:∀ b,b∈f->b<w.heap.size:=F.lt hR;have hplt:∀ b,b∈fps.flatten->b<W.heap.size:=hp.lt F;have hgW:∀ b,v.ownBlock=some b->b<W.heap.size:=fun b hb=>(World.ownsRow.lt hp.own b hb).2;have hfo:∀ b,b∈f->v.ownBlock≠some b:=fun b hb q=>by have:=hgW b q;have:=hf.lo b hb;omega
  have hpo:∀ b,b∈fps.flatten->v.ownBlock≠some b:=fun b hb q=>hp.apart b q hb;refine h v' w' ⟨rows++[⟨cs,hcl⟩],fps++[f],ho',by simp [hlen],by simp [hlenf],fun j h0 h2 h3=>?_,?_,?_,?_,?_⟩ ((hW.mono hbase).trans hbel) hbel
  ·by_cases hj:j<l.length
   ·rw [List.getElem_append_left hj,List.getElem_append_left (by omega:j<rows.length),List.getElem_append_left (by omega:j<fps.length)];have hR0:=F.below (hp.els j hj (by omega) (by omega)) hW;have hm:∀ b,b∈fps[j]->b∈fps.flatten:=fun b hb=>List.mem_flatten.2 ⟨_,List.getElem_mem _,hb⟩;exact F.same hR0 (fun b hb=>hkeep b (Nat.lt_of_lt_of_le (hplt b (hm b hb)) hW.size) (hpo b (hm b hb))) hgr.size
   ·obtain rfl:j=l.length:=by simp at h0;omega
    rw [List.getElem_append_right (by omega),List.getElem_append_right (by omega),List.getElem_append_right (by omega)];simp only [Nat.sub_self,hlen,hlenf,List.getElem_cons_zero];exact F.same hR (fun b hb=>hkeep b (hflt b hb) (hfo b hb)) hgr.size
  ·intro b hb;simp only [List.flatten_append,List.mem_append,List.flatten_cons,List.flatten_nil,List.append_nil] at hb;rcases hb with hb|hb
   ·exact hp.lo b hb
   ·have:=hf.lo b hb;omega
  ·simp only [List.flatten_append,List.flatten_cons,List.flatten_nil,List.append_nil];exact nodup_app hp.once hf.once fun b hb hb'=>by have:=hplt b hb;have:=hf.lo b hb';omega
  ·simp only [List.flatten_append,List.flatten_cons,List.flatten_nil,List.append_nil];have h3:Free fps.flatten w:=hp.free.below hplt hW;exact (h3.same fun b hb=>hkeep b (Nat.lt_of_lt_of_le (hplt b hb) hW.size) (hpo b hb)).app (hf.free.same fun b hb=>hkeep b (hflt b hb) (hfo b hb))
  ·intro b hb hm;simp only [List.flatten_append,List.mem_append,List.flatten_cons,List.flatten_nil,List.append_nil] at hm;rcases hblk with q|q
   ·rw [q] at hb;rcases hm with hm|hm
    ·exact hpo b hm hb
    ·exact hfo b hm hb
   ·rw [hb] at q;obtain rfl:b=w.heap.size:=Option.some.inj q;rcases hm with hm|hm
    ·have:=hplt _ hm;have:=hW.size;omega
    ·have:=hflt _ hm;omega
def FEl1 {α:Type} (W:World) (R:Pr α) (x:α):Fact:=fun v w=>∃ (A:Addr) (cs:List Value) (f:List Nat),v = .slice (some A) 1 1∧R w x cs f∧New f W w∧(∀ b,b∈f->b<w.heap.size)∧A.block<w.heap.size∧A.spot=none∧(∀ j (hj:j<cs.length),w.cell? (A.add j)=some cs[j])∧(∀ u∈cs,u.oneCell'=true)
theorem New.later {f:List Nat} {W w w':World} (h:New f W w) (hl:∀ b,b∈f->b<w.heap.size) (hc:Chg [] w w'):New f W w':=⟨h.lo,h.once,h.free.chg hl hc (fun _ _=>by simp)⟩
theorem stEl1 {α:Type} {K:Nat} {R:Pr α} (F:Fits K R) (W:World) (x:α):Stable [] (FEl1 W R x):=fun _ _ _ ⟨⟨b,o,s⟩,cs,f,e,h1,h2,h3,h4,h5,h6,h7⟩ hc=>by
 obtain rfl:s=none:=h5;exact ⟨⟨b,o,none⟩,cs,f,e,F.chg h1 hc (fun _ _=>by simp),h2.later h3 hc,fun b hb=>Nat.lt_of_lt_of_le (h3 b hb) hc.size,Nat.lt_of_lt_of_le h4 hc.size,rfl,fun j hj=>by
  have:=h6 j hj;rw [add_plain] at this ⊢;exact keep_cell_chg hc this (by simp),h7⟩
end Go.Proofs.Ytmcjklicepaiaaa
namespace Go.Proofs.Ytmcjklicepaiaaa
open Go.RowKit Go.WideShapes
abbrev Tr (α:Type) (K:Nat):=α × CellsK K × List Nat
def trC {α:Type} {K:Nat} (p:Tr α K):List Value:=p.2.1.1
theorem trC_len {α:Type} {K:Nat} (p:Tr α K):(trC p).length=K:=p.2.1.2
abbrev flatR {α:Type} (c:α->List Value):Pr α:=fun _ x cs fp=>cs=c x∧fp=[]
theorem flatR_fits {α:Type} {K:Nat} {c:α->List Value} (hk:∀ x,(c x).length=K):Fits K (flatR c):=⟨fun h=>by rw [h.1,hk],fun h b hb=>by rw [h.2] at hb;simp at hb,fun h _ _=>h⟩
variable {α:Type} {K:Nat} {R:Pr α} {w w':World} {v:Value} {l:List α}
theorem SlR.tr (F:Fits K R) {fp:List Nat} (h:SlR K R w l v fp):∃ (L:List (Tr α K)) (fq:List Nat),L.map (·.1)=l∧SlR K (flatR trC) w L v fq∧(∀ p,p∈L->R w p.1 p.2.1.1 p.2.2∧∀ b,b∈p.2.2->b∈fp)∧∀ b,b∈fq->b∈fp:=by
 obtain ⟨a,n,cap,rfl,hn,hcap,hcm,⟨rfl,rfl⟩|⟨b,off,fps,rfl,hb,rfl,hf,hc⟩⟩:=h
 ·exact ⟨[],[],rfl,⟨a,n,cap,rfl,hn,hcap,hcm,.inl ⟨rfl,rfl⟩⟩,fun p hp=>by simp at hp,fun b hb=>by simp at hb⟩
 ·replace hn:l.length=n:=hn;have main:∀ q,q<=l.length->∃ L:List (Tr α K),L.length=q∧L.map (·.1)=l.take q∧∀ i (h:i<L.length) (h1:i<fps.length),L[i].2.2=fps[i]∧R w L[i].1 L[i].2.1.1 L[i].2.2∧∀ j (hj:j<(trC L[i]).length),w.cell? ⟨b,off+i*K+j,none⟩=some (trC L[i])[j]:=by
   intro q
   induction q with
   | zero=>exact fun _=>⟨[],rfl,by simp,fun i h=>absurd h (by simp)⟩
   | succ q ih =>
    intro hq;obtain ⟨L,h1,h2,h3⟩:=ih (by omega);obtain ⟨cs,hR,hcell⟩:=hc q (by omega) (by omega);refine ⟨L++[(l[q],⟨cs,F.len hR⟩,fps[q])],by simp [h1],by rw [List.map_append,h2,List.take_succ_eq_append_getElem (by omega)];rfl,fun i h h'=>?_⟩;by_cases hiq:i<q
    ·simp only [List.getElem_append_left (by omega:i<L.length)];exact h3 i (by omega) h'
    ·obtain rfl:i=L.length:=by simp [h1] at h;omega
     subst h1;simp only [List.getElem_append_right (Nat.le_refl _),Nat.sub_self,List.getElem_cons_zero];exact ⟨trivial,hR,hcell⟩
  obtain ⟨L,h1,h2,h3⟩:=main l.length (Nat.le_refl _);rw [List.take_of_length_le (Nat.le_refl _)] at h2;refine ⟨L,b::(List.replicate L.length []).flatten,h2,⟨_,n,cap,rfl,by omega,hcap,hcm,.inr ⟨b,off,List.replicate L.length [],rfl,hb,rfl,by simp,fun i hi hi'=>⟨trC L[i],⟨rfl,by simp⟩,(h3 i hi (by omega)).2.2⟩⟩⟩,fun p hp=>?_,fun c hc=>?_⟩
  ·obtain ⟨i,hi,rfl⟩:=List.mem_iff_getElem.1 hp;obtain ⟨e,hR,_⟩:=h3 i hi (by omega);refine ⟨hR,fun c hcm=>?_⟩;rw [e] at hcm;exact List.mem_cons_of_mem _ (List.mem_flatten.2 ⟨_,List.getElem_mem _,hcm⟩)
  ·rcases List.mem_cons.1 hc with rfl|hc
   ·exact List.mem_cons_self ..
   ·obtain ⟨f,hf1,hf2⟩:=List.mem_flatten.1 hc;rw [List.eq_of_mem_replicate hf1] at hf2;simp at hf2
theorem SlR.untr {L:List (Tr α K)} {fq:List Nat} (h:SlR K (flatR trC) w L v fq) (hR:∀ p,p∈L->R w p.1 p.2.1.1 p.2.2):SlR K R w (L.map (·.1)) v (fq++(L.map (·.2.2)).flatten):=by
 obtain ⟨a,n,cap,rfl,hn,hcap,hcm,⟨rfl,rfl⟩|⟨b,off,fps,rfl,hb,rfl,hf,hc⟩⟩:=h
 ·exact ⟨a,n,cap,rfl,hn,hcap,hcm,.inl ⟨rfl,rfl⟩⟩
 ·have h0:fps.flatten=[]:=by
   rw [List.flatten_eq_nil_iff];intro f hf1;obtain ⟨i,hi,rfl⟩:=List.mem_iff_getElem.1 hf1;obtain ⟨cs,⟨_,e⟩,_⟩:=hc i (by omega) hi;exact e
  refine ⟨_,n,cap,rfl,by simpa using hn,hcap,hcm,.inr ⟨b,off,L.map (·.2.2),rfl,hb,by rw [h0];rfl,by simp,fun i hi hi'=>?_⟩⟩;have hiL:i<L.length:=by simpa using hi
  obtain ⟨cs,⟨rfl,_⟩,hcell⟩:=hc i hiL (by omega);refine ⟨trC L[i],?_,hcell⟩;have:=hR L[i] (List.getElem_mem hiL);simpa [trC] using this
end Go.Proofs.Ytmcjklicepaiaaa
namespace Go.Proofs.Ytmcjklicepaiaaa
open Go.RowKit Go.WideShapes
variable {α:Type} {K:Nat} {c:α->List Value} {e:TypeId} {w w':World} {base:Nat} {v:Value} {l:List α}
theorem wpList_append_no {P:Program} {ops:Array Oper} {rest:List Oper} {o:Oper} {a:Act} {Q:Exit->Act->World->Prop} {n cap c2:Nat} {A:Option Addr} {B:Addr}
 (hgd:o.guard=none) (s x:Operand) (t e:TypeId) (i:TypeInfo)
 (ho:o.op = .call { callee:=.builtin .append,args := #[s,x],argTypes := #[t,t] })
 (ht:P.underlying t=some (.slice e)) (hi:P.info? e=some i)
 (hs:a.eval s = .slice (some B) n cap) (hx:a.eval x = .slice A 0 c2) (hn:n<=cap)
 (h:wpList P ops Q rest (a.put o.dst (.slice (some B) n cap)) w) :
 wpList P ops Q (o::rest) a w:=by
 refine wpList_plain hgd fun K' hK'=>?_;have hr:(Builtin.append_ #[t,t] o.type #[.slice (some B) n cap,.slice A 0 c2]).run P w = .ok (.slice (some B) n cap) w:=by
  cases A<;>simp [Builtin.append_,run_underlying ht,sizeOf,typeInfo,hi,Builtin.lenOf,Builtin.firstCells,hn,storeCells,loadCells,loadCellsFrom]
 unfold Oper.wp execOp;simp only [ho,resolve,invoke,builtin,Sem.run_bind,Sem.run_pure,Result.andThen_ok,List.map_toArray,List.map_cons,List.map_nil,hs,hx,hr];exact hK' _ _ h
theorem wpList_append_lit {P:Program} {ops:Array Oper} {rest:List Oper} {o:Oper} {a:Act} {Q:Exit->Act->World->Prop} {m c2 g:Nat} {news:List α} {A:Option Addr} {fq:List Nat}
 (hgd:o.guard=none) (s x:Operand) (t e:TypeId) (i:TypeInfo) (z:Value) (bytes:Nat) (hk:∀ x,(c x).length=K)
 (ho:o.op = .call { callee:=.builtin .append,args := #[s,x],argTypes := #[t,t] })
 (ht:P.underlying t=some (.slice e)) (hi:P.info? e=some i) (hz:i.zero=some z) (hsize:i.size=K) (hby:i.bytes=bytes) (hzs:z.cells.size=K) (hK0:0<K) (hb8:bytes<=128)
 (hs:a.eval s = .slice (some ⟨g,0,none⟩) 0 0) (hx:a.eval x = .slice A m c2) (hown:OwnR K c e base w (.slice (some ⟨g,0,none⟩) 0 0) []) (hl:SlR K (fun _ x cs fp=>cs=c x∧fp=[]) w news (.slice A m c2) fq) (hbase:base<=w.heap.size)
 (hmm:m<=2000000)
 (h:∀ v' w',OwnR K c e base w' v' news->Below w.heap.size w w'->wpList P ops Q rest (a.put o.dst v') w') :
 wpList P ops Q (o::rest) a w:=by
 have hlen:news.length=m:=by
  obtain ⟨a',n',c',e1,hn,_⟩:=hl;simp only [Value.slice.injEq] at e1;rw [hn,e1.2.1]
 by_cases h0:m=0
 ·subst h0;obtain rfl:news=[]:=List.eq_nil_of_length_eq_zero hlen;exact wpList_append_no hgd s x t e i ho ht hi hs hx (Nat.le_refl _) (h _ _ hown (Below.refl _ _))
 ·have hne:news≠[]:=fun e=>h0 (by rw [<- hlen,e];rfl);have h2:=hl;obtain ⟨a',n',c',e1,hn,_,_,⟨rfl,_⟩|⟨b,off,fps,rfl,_⟩⟩:=hl
  ·exact absurd rfl hne
  ·simp only [Value.slice.injEq] at e1;obtain ⟨rfl,rfl,rfl⟩:=e1;exact wpList_append_empty hgd s x t e i z bytes hk ho ht hi hz hsize hby hzs hb8 hs hx hlen (by omega) (SlR.flat_cells hk hK0 h2) hmm (fun v' w' ho' hb'=>h v' w' (OwnR.lower ho' hbase) hb')
end Go.Proofs.Ytmcjklicepaiaaa
