/-
 Texts of this claim laid together: TlmP.
-/
import Derived.Test.YtmcjklicepaiaaaPk44
import Derived.Test.YtmcjklicepaiaaaPk45
import Derived.Test.YtmcjklicepaiaaaPk46
set_option linter.unusedVariables false
set_option linter.unusedSimpArgs false
namespace Go.Proofs.Ytmcjklicepaiaaa
open Go.RowKit Go.ChangeShapes Go.WideShapes
section
variable {α:Type} {K:Nat} {R:Pr α} {e:TypeId} {w w':World} {base:Nat} {v:Value} {l:List α}
theorem sl_own {rows:List (CellsK K)} {fps:List (List Nat)} (h:OwnR K cellsK e base w v rows) (hlen:rows.length=l.length) (hlenf:fps.length=l.length) (els:∀ i (h:i<l.length) (h1:i<rows.length) (h2:i<fps.length),R w l[i] rows[i].1 fps[i]):SlR K R w l v (v.ownBlock.toList++fps.flatten):=by
 have ho:=h;rcases h.2 with ⟨q,h0⟩|⟨g,cap,cur,q,hg,hcur,hnc,hcm,r⟩
 ·obtain rfl:l=[]:=List.eq_nil_of_length_eq_zero (by omega);obtain rfl:fps=[]:=List.eq_nil_of_length_eq_zero (by simpa using hlenf);subst q;exact ⟨none,0,0,rfl,rfl,Nat.le_refl _,by simp,.inl ⟨rfl,rfl⟩⟩
 ·have hgl:g<w.heap.size:=by
   rcases Nat.lt_or_ge g w.heap.size with hh|hh
   ·exact hh
   ·simp [Array.getElem?_eq_none hh] at hcur
  rw [q] at ho;refine ⟨_,rows.length,cap,q,hlen.symm,hnc,hcm,.inr ⟨g,0,fps,rfl,hgl,by rw [q];rfl,hlenf,fun i hi hi'=>⟨rows[i].1,els i hi (by omega) hi',fun j hj=>?_⟩⟩⟩;rw [Nat.zero_add];exact OwnR.cell cellsK_len ho (by omega) hj
theorem OwnP.sl {rows:List (CellsK K)} {fps:List (List Nat)} (h:OwnP K R e base w v l rows fps):SlR K R w l v (v.ownBlock.toList++fps.flatten):=sl_own h.own h.len h.lenf h.els
theorem wpList_pushS {P:Program} {ops:Array Oper} {rest:List Oper} {o:Oper} {a:Act} {Q:Exit->Act->World->Prop} {c2:Nat} {A:Addr} {x:α} {cs:List Value} {f:List Nat} {rows:List (CellsK K)} {fps:List (List Nat)}
 (hgd:o.guard=none) (s y:Operand) (t e:TypeId) (i:TypeInfo) (z:Value) (bytes:Nat) (F:Fits K R)
 (ho:o.op = .call { callee:=.builtin .append,args := #[s,y],argTypes := #[t,t] })
 (ht:P.underlying t=some (.slice e)) (hi:P.info? e=some i) (hz:i.zero=some z) (hsize:i.size=K) (hby:i.bytes=bytes) (hzs:z.cells.size=K) (hsz:0<K) (hb8:bytes<=128)
 (hs:a.eval s=v) (hy:a.eval y = .slice (some A) 1 c2) (hp:OwnP K R e base w v l rows fps) (hR:R w x cs f) (hap:∀ b,b∈f->v.ownBlock≠some b) (hcell:∀ j (hj:j<cs.length),w.cell? (A.add j)=some cs[j]) (h1:∀ u∈cs,u.oneCell'=true)
 (hn:l.length<=2000000) (hbw:base<=w.heap.size)
 (h:∀ v' w',SlR K R w' (l++[x]) v' (v'.ownBlock.toList++(fps.flatten++f))->Chg v.ownBlock.toList w w'->(v'.ownBlock=v.ownBlock∨v'.ownBlock=some w.heap.size)->wpList P ops Q rest (a.put o.dst v') w') :
 wpList P ops Q (o::rest) a w:=by
 have hlen:=hp.len;have hlenf:=hp.lenf;have hcl:=F.len hR;refine wpList_appendB (c:=cellsK) (news:=[⟨cs,hcl⟩]) hgd s y t e i z bytes cellsK_len ho ht hi hz hsize hby hzs hsz hb8 hs hy hp.own rfl (by decide) ?_ (oneCells_flat h1) (by omega) (by omega) hbw ?_
 ·intro j u hj;simp only [List.flatMap_cons,List.flatMap_nil,List.append_nil] at hj;obtain ⟨hj1,hj2⟩:=List.getElem?_eq_some_iff.1 hj;rw [<- hj2];exact hcell j hj1
 ·intro v' w' ho' hgr hblk;have hkeep:∀ b,b<w.heap.size->v.ownBlock≠some b->w'.heap[b]?=w.heap[b]?:=fun b hb hne=>hgr.block b hb (fun q=>hne q.symm);have hflt:∀ b,b∈f->b<w.heap.size:=F.lt hR;have hplt:∀ b,b∈fps.flatten->b<w.heap.size:=hp.lt F;have hpo:∀ b,b∈fps.flatten->v.ownBlock≠some b:=fun b hb q=>hp.apart b q hb;refine h v' w' ?_ ⟨hgr.os,hgr.tape,hgr.output,hgr.size,fun b hb hne=>hkeep b hb (fun q=>hne (by simp [q]))⟩ hblk;have:=sl_own (R:=R) (l:=l++[x]) (fps:=fps++[f]) ho' (by simp [hlen]) (by simp [hlenf]) (fun j h0 h2 h3=>by
   by_cases hj:j<l.length
   ·rw [List.getElem_append_left hj,List.getElem_append_left (by omega:j<rows.length),List.getElem_append_left (by omega:j<fps.length)];have hm:∀ b,b∈fps[j]->b∈fps.flatten:=fun b hb=>List.mem_flatten.2 ⟨_,List.getElem_mem _,hb⟩;exact F.same (hp.els j hj (by omega) (by omega)) (fun b hb=>hkeep b (hplt b (hm b hb)) (hpo b (hm b hb))) hgr.size
   ·obtain rfl:j=l.length:=by simp at h0;omega
    rw [List.getElem_append_right (by omega),List.getElem_append_right (by omega),List.getElem_append_right (by omega)];simp only [Nat.sub_self,hlen,hlenf,List.getElem_cons_zero];exact F.same hR (fun b hb=>hkeep b (hflt b hb) (hap b hb)) hgr.size)
  simpa using this
end
structure P6 (w:World) (y:Tlm) (v0 v1 v2 v3 v4 v5:Value) (g0 g1 g2 g3 g4 g5:List Nat):Prop where
 h0:SlR 1 intR w y.atm.mem v0 g0
 h1:SlR 1 intR w y.atm.holds v1 g1
 h2:SlR 1 intR w y.asked v2 g2
 h3:SlR 5 jobR w y.wait v3 g3
 h4:SlR 5 jobR w y.done v4 g4
 h5:SlR 5 jobR w y.told v5 g5
def P6x (lo:Nat) (w:World) (v0 v1 v2 v3 v4 v5:Value):Prop:=∃ y g0 g1 g2 g3 g4 g5,P6 w y v0 v1 v2 v3 v4 v5 g0 g1 g2 g3 g4 g5∧∀ b,b∈g0++g1++g2++g3++g4++g5->lo<=b
theorem P6.same {w w':World} {y:Tlm} {v0 v1 v2 v3 v4 v5:Value} {g0 g1 g2 g3 g4 g5:List Nat} (h:P6 w y v0 v1 v2 v3 v4 v5 g0 g1 g2 g3 g4 g5) (hs:∀ b,b∈g0++g1++g2++g3++g4++g5->b<w.heap.size->w'.heap[b]?=w.heap[b]?) (hz:w.heap.size<=w'.heap.size):P6 w' y v0 v1 v2 v3 v4 v5 g0 g1 g2 g3 g4 g5 :=
 ⟨h.h0.same intR_fits (fun b hb=>hs b (by simp [hb]) (h.h0.lt intR_fits b hb)) hz,h.h1.same intR_fits (fun b hb=>hs b (by simp [hb]) (h.h1.lt intR_fits b hb)) hz,h.h2.same intR_fits (fun b hb=>hs b (by simp [hb]) (h.h2.lt intR_fits b hb)) hz,
  h.h3.same jobR_fits (fun b hb=>hs b (by simp [hb]) (h.h3.lt jobR_fits b hb)) hz,h.h4.same jobR_fits (fun b hb=>hs b (by simp [hb]) (h.h4.lt jobR_fits b hb)) hz,h.h5.same jobR_fits (fun b hb=>hs b (by simp [hb]) (h.h5.lt jobR_fits b hb)) hz⟩
def Six (b:Nat) (v0 v1 v2 v3 v4 v5:Value) (w:World):Prop:=∀ j (hj:j<6),w.cell? ⟨b,j,none⟩=some ([v0,v1,v2,v3,v4,v5][j]'hj)
theorem Six.chg {b:Nat} {v0 v1 v2 v3 v4 v5:Value} {w w':World} {fp:List Nat} (h:Six b v0 v1 v2 v3 v4 v5 w) (hc:Chg fp w w') (hn:b∉fp):Six b v0 v1 v2 v3 v4 v5 w':=fun j hj=>keep_cell_chg hc (h j hj) hn
theorem Six.set {b k:Nat} {v0 v1 v2 v3 v4 v5 v:Value} {w:World} (h:Six b v0 v1 v2 v3 v4 v5 w) (hk:k<6):∀ j (hj:j<6),(w.setCell ⟨b,k,none⟩ v).cell? ⟨b,j,none⟩=some (if j=k then v else [v0,v1,v2,v3,v4,v5][j]'hj):=fun j hj=>by
 by_cases e:j=k
 ·subst e;rw [if_pos rfl];exact setSame _ (h j hj)
 ·rw [if_neg e];exact setOther _ (Ne.symm e) (h j hj)
structure PreS (L:List Nat) (rb:Nat) (fq:List Nat) (rc cb:Nat) (ws wq:World) (M:Int) (T:Tab) (lm:List MR) (fm:List Nat) (va:Option Addr) (vn vc:Nat) (la:Option Addr) (ln lc:Nat) (pa:Option Addr) (pn pc:Nat) (ms hs qs:List Int) (lx ly lz:List Job) (v0 v1 v2 v3 v4 v5:Value) (B:Nat) (F:Nat->List Nat) (w:World):Prop where
 hB:wq.heap.size<=B
 th:TH gFit L T wq
 tw:TH gFit (cb::L) T w
 tf:∀ b,b<ws.heap.size->T b=none
 mp:SlR 4 mrR wq lm (.slice va vn vc) fm
 fz:Fz L T wq fm
 lat:SlA T 1 la ln lc
 prg:SlA T 4 pa pn pc
 ch:Chg [rb] wq w
 rd:RdAt w rb fq M
 c0:w.cell? ⟨cb,0,none⟩=some (.slice va vn vc)
 c1:w.cell? ⟨cb,1,none⟩=some (.slice la ln lc)
 c2:w.cell? ⟨cb,2,none⟩=some (.slice pa pn pc)
 fc:∀ o,w.frozen? ⟨cb,o,none⟩=false
 s:Six (cb+1) v0 v1 v2 v3 v4 v5 w
 fs:∀ o,w.frozen? ⟨cb+1,o,none⟩=false
 q0:RoomAt rc 3 w
 q1:RoomAt (rc+1) 6 w
 st:Chg [rb] ws w
 pl:Pile B (PGood B ms hs qs lx ly lz) [(true,.agg #[v0,v1]),(true,v2),(true,v3),(true,v4),(true,v5)] w F
 lt:∀ k,k<5->∀ c,c∈F k->c<cb
structure PreC (L:List Nat) (rb:Nat) (fq:List Nat) (rc cb:Nat) (ws wq:World):Prop where
 hrb:rb∈L
 hfq:∀ b,b∈fq->b∈L
 hrc:rc∈L
 hrs:rc+1∈L
 l0:ws.heap.size<=wq.heap.size
 l1:rb<rc
 l2:∀ b,b∈fq->b<ws.heap.size
 l3:rc+1<ws.heap.size
 l4:wq.heap.size<=cb
structure OrE (G:Gd) (L:List Nat) (rb rc cb:Nat) (ws:World) (T:Tab) (lm:List MR) (fm:List Nat) (va:Option Addr) (vn vc:Nat) (la:Option Addr) (ln lc:Nat) (pa:Option Addr) (pn pc:Nat) (v0 v1 v2 v3 v4 v5:Value) (w:World):Prop where
 th:TH G L T w
 mp:SlR 4 mrR w lm (.slice va vn vc) fm
 fz:Fz L T w fm
 lat:SlA T 1 la ln lc
 prg:SlA T 4 pa pn pc
 c0:w.cell? ⟨cb,0,none⟩=some (.slice va vn vc)
 c1:w.cell? ⟨cb,1,none⟩=some (.slice la ln lc)
 c2:w.cell? ⟨cb,2,none⟩=some (.slice pa pn pc)
 s:Six (cb+1) v0 v1 v2 v3 v4 v5 w
 q0:RoomAt rc 3 w
 q1:RoomAt (rc+1) 6 w
 st:Chg [rb] ws w
 p:P6x ws.heap.size w v0 v1 v2 v3 v4 v5
section
variable {L fq fm:List Nat} {rb rc cb:Nat} {ws wq w w':World} {M M':Int} {T T':Tab} {lm:List MR} {va la pa:Option Addr} {vn vc ln lc pn pc:Nat} {ms hs qs:List Int} {lx ly lz:List Job} {v0 v1 v2 v3 v4 v5 u0 u1 u2 u3 u4 u5:Value} {F:Nat->List Nat} {B:Nat}
theorem PreS.draw (C:PreC L rb fq rc cb ws wq) (h:PreS L rb fq rc cb ws wq M T lm fm va vn vc la ln lc pa pn pc ms hs qs lx ly lz v0 v1 v2 v3 v4 v5 B F w) (hc:Chg [rb] w w') (hr:RdAt w' rb fq M'):PreS L rb fq rc cb ws wq M' T lm fm va vn vc la ln lc pa pn pc ms hs qs lx ly lz v0 v1 v2 v3 v4 v5 B F w':=by
 obtain ⟨C1,C2,C3,C4,l0,l1,l2,l3,l4⟩:=C;have nc:cb∉[rb]:=by simp;omega
 have ns:cb+1∉[rb]:=by simp;omega
 have sl:cb+1<w.heap.size:=block_of_cell (h.s 0 (by decide));exact ⟨h.hB,h.th,h.tw.chg hc (by simp [C1]),h.tf,h.mp,h.fz,h.lat,h.prg,h.ch.trans' hc,hr,keep_cell_chg hc h.c0 nc,keep_cell_chg hc h.c1 nc,keep_cell_chg hc h.c2 nc,fun o=>(World.frozen?_of_block (hc.block cb (by omega) nc)).trans (h.fc o),h.s.chg hc ns,fun o=>(World.frozen?_of_block (hc.block _ sl ns)).trans (h.fs o),
  h.q0.chg hc (by simp;omega),h.q1.chg hc (by simp;omega),h.st.trans' hc,h.pl.chg (PGood.keeps _ _ _ _ _ _ _) hc (fun k v e c hm hc'=>by have:=((h.pl.good k v e).2 c hm).1;have:=h.hB;simp at hc';omega),h.lt⟩
theorem PreS.below (C:PreC L rb fq rc cb ws wq) (h:PreS L rb fq rc cb ws wq M T lm fm va vn vc la ln lc pa pn pc ms hs qs lx ly lz v0 v1 v2 v3 v4 v5 B F w) (hb:Below w.heap.size w w'):PreS L rb fq rc cb ws wq M T lm fm va vn vc la ln lc pa pn pc ms hs qs lx ly lz v0 v1 v2 v3 v4 v5 B F w':=h.draw C (hb.chg [rb]) (h.rd.below hb)
theorem PreS.read (h:PreS L rb fq rc cb ws wq M T lm fm va vn vc la ln lc pa pn pc ms hs qs lx ly lz v0 v1 v2 v3 v4 v5 B F w):∃ f0 f1,F 0=f0++f1∧P6 w ⟨⟨ms,hs⟩,qs,lx,ly,lz⟩ v0 v1 v2 v3 v4 v5 f0 f1 (F 1) (F 2) (F 3) (F 4):=by
 obtain ⟨⟨a,n,c,a',n',c',f0,f1,e,ef,g0,g1⟩,-⟩:=h.pl.good 0 _ rfl;simp only [Value.agg.injEq,Array.mk.injEq,List.cons.injEq,and_true] at e;obtain ⟨rfl,rfl⟩:=e;have jb:∀ {l:List Job} {v:Value} {f:List Nat},PJob B l v f w->SlR 5 jobR w l v f:=fun ⟨rows,fps,h,e⟩=>by rw [e];exact h.sl
 exact ⟨f0,f1,ef,g0,g1,(h.pl.good 1 _ rfl).1.1,jb (h.pl.good 2 _ rfl).1,jb (h.pl.good 3 _ rfl).1,jb (h.pl.good 4 _ rfl).1⟩
theorem PreS.lo (h:PreS L rb fq rc cb ws wq M T lm fm va vn vc la ln lc pa pn pc ms hs qs lx ly lz v0 v1 v2 v3 v4 v5 B F w) {k:Nat} (hk:k<5) {c:Nat} (hc:c∈F k):wq.heap.size<=c:=by
 have:k=0∨k=1∨k=2∨k=3∨k=4:=by omega
 rcases this with rfl|rfl|rfl|rfl|rfl
 ·exact Nat.le_trans h.hB ((h.pl.good 0 _ rfl).2 c hc).1
 ·exact Nat.le_trans h.hB ((h.pl.good 1 _ rfl).2 c hc).1
 ·exact Nat.le_trans h.hB ((h.pl.good 2 _ rfl).2 c hc).1
 ·exact Nat.le_trans h.hB ((h.pl.good 3 _ rfl).2 c hc).1
 ·exact Nat.le_trans h.hB ((h.pl.good 4 _ rfl).2 c hc).1
theorem PreS.ap (h:PreS L rb fq rc cb ws wq M T lm fm va vn vc la ln lc pa pn pc ms hs qs lx ly lz v0 v1 v2 v3 v4 v5 B F w) {k j:Nat} (hk:k<5) (hj:j<5) (hn:k≠j):∀ c,c∈F k->c∉F j:=by
 have at':∀ i,i<5->∃ v,([(true,Value.agg #[v0,v1]),(true,v2),(true,v3),(true,v4),(true,v5)]:List (Bool × Value))[i]?=some (true,v):=fun i hi=>by
  have:i=0∨i=1∨i=2∨i=3∨i=4:=by omega
  rcases this with rfl|rfl|rfl|rfl|rfl<;>exact ⟨_,rfl⟩
 obtain ⟨x,hx⟩:=at' k hk;obtain ⟨y,hy⟩:=at' j hj;exact h.pl.apart k j x y hx hy hn
theorem PreS.fin (C:PreC L rb fq rc cb ws wq) (h:PreS L rb fq rc cb ws wq M T lm fm va vn vc la ln lc pa pn pc ms hs qs lx ly lz v0 v1 v2 v3 v4 v5 B F w) {X:List Nat} (hc:Chg X w w') (hX:∀ b,b∈X->wq.heap.size<=b∧b≠cb) (s:Six (cb+1) u0 u1 u2 u3 u4 u5 w') (p:P6x ws.heap.size w' u0 u1 u2 u3 u4 u5):OrE gFit L rb rc cb ws T lm fm va vn vc la ln lc pa pn pc u0 u1 u2 u3 u4 u5 w':=by
 obtain ⟨C1,C2,C3,C4,l0,l1,l2,l3,l4⟩:=C;have q:∀ b,b∈[rb]->b∈L:=by simpa using C1
 have nc:cb∉X:=fun hm=>(hX _ hm).2 rfl;have hq:Chg [rb] wq w':=⟨hc.os.trans h.ch.os,hc.tape.trans h.ch.tape,hc.output.trans h.ch.output,Nat.le_trans h.ch.size hc.size,fun k hk hn=>(hc.block k (Nat.lt_of_lt_of_le hk h.ch.size) (fun hm=>by have:=(hX k hm).1;omega)).trans (h.ch.block k hk hn)⟩;have sq:=Step.of_chg (T:=T) hq;exact ⟨h.th.chg hq q,h.mp.same mrR_fits (h.fz.same sq q) hq.size,h.fz.step sq,h.lat,h.prg,keep_cell_chg hc h.c0 nc,keep_cell_chg hc h.c1 nc,keep_cell_chg hc h.c2 nc,s,h.q0.chg hc (fun hm=>by have:=(hX _ hm).1;omega),h.q1.chg hc (fun hm=>by have:=(hX _ hm).1;omega),
  ⟨hc.os.trans h.st.os,hc.tape.trans h.st.tape,hc.output.trans h.st.output,Nat.le_trans h.st.size hc.size,fun k hk hn=>(hc.block k (Nat.lt_of_lt_of_le hk h.st.size) (fun hm=>by have:=(hX k hm).1;omega)).trans (h.st.block k hk hn)⟩,p⟩
theorem OrE.any (h:OrE gFit L rb rc cb ws T lm fm va vn vc la ln lc pa pn pc v0 v1 v2 v3 v4 v5 w):OrE gAny L rb rc cb ws T lm fm va vn vc la ln lc pa pn pc v0 v1 v2 v3 v4 v5 w:={ h with th:=h.th.weaken (fun _ _=>trivial) (by decide) }
theorem PreS.p6x (C:PreC L rb fq rc cb ws wq) (h:PreS L rb fq rc cb ws wq M T lm fm va vn vc la ln lc pa pn pc ms hs qs lx ly lz v0 v1 v2 v3 v4 v5 B F w):P6x ws.heap.size w v0 v1 v2 v3 v4 v5:=by
 obtain ⟨f0,f1,e,p⟩:=h.read;have l0:=C.l0;refine ⟨_,_,_,_,_,_,_,p,fun b hb=>?_⟩;rw [<- e] at hb;simp only [List.mem_append] at hb;rcases hb with (((hb|hb)|hb)|hb)|hb<;>exact Nat.le_trans l0 (h.lo (by decide) hb)
theorem PreS.right (C:PreC L rb fq rc cb ws wq) (h:PreS L rb fq rc cb ws wq M T lm fm va vn vc la ln lc pa pn pc ms hs qs lx ly lz v0 v1 v2 v3 v4 v5 B F w):OrE gFit L rb rc cb ws T lm fm va vn vc la ln lc pa pn pc v0 v1 v2 v3 v4 v5 w :=
 h.fin C (Chg.refl [] _) (by simp) h.s (h.p6x C)
theorem PreS.bus (C:PreC L rb fq rc cb ws wq) (h:PreS L rb fq rc cb ws wq M T lm fm va vn vc la ln lc pa pn pc ms hs qs lx ly lz v0 v1 v2 v3 v4 v5 B F w) {e:Ending} {lm':List MR} {fm':List Nat} {va' la' pa':Option Addr} {vn' vc' ln' lc' pn' pc':Nat} (hp:BusPost gAny (cb::L) rb fq T w M' e w' T' lm' fm' va' vn' vc' la' ln' lc' pa' pn' pc') {w2:World}
 (e2:w2=((w'.setCell ⟨cb,0,none⟩ (.slice va' vn' vc')).setCell ⟨cb,1,none⟩ (.slice la' ln' lc')).setCell ⟨cb,2,none⟩ (.slice pa' pn' pc')):OrE gAny L rb rc cb ws T' lm' fm' va' vn' vc' la' ln' lc' pa' pn' pc' v0 v1 v2 v3 v4 v5 w2:=by
 obtain ⟨f0,f1,ef,p⟩:=h.read;obtain ⟨C1,C2,C3,C4,l0,l1,l2,l3,l4⟩:=C;have tn:∀ b,wq.heap.size<=b->T b=none:=fun b hb=>by
  cases e:T b with
  | none=>rfl
  | some x=>have:=h.th.lt b x e;omega
 have hc:Chg [cb] w' w2:=by rw [e2];exact chg3 cb w' _ _ _
 have q:∀ b,b∈[cb]->b∈cb::L:=by simp
 have s1:=hp.st;have nr:∀ b,wq.heap.size<=b->b∉[rb]:=fun b hb=>by simp;omega
 have d0:=s1.cell h.c0 (nr cb l4) (tn cb l4);have d1:=s1.cell h.c1 (nr cb l4) (tn cb l4);have d2:=s1.cell h.c2 (nr cb l4) (tn cb l4);obtain ⟨t0,t1,t2,-⟩:=fin3 (.slice va' vn' vc') (.slice la' ln' lc') (.slice pa' pn' pc') d0 d1 d2;have tl:∀ c,c∈L->T c=none:=h.th.rd;have room:∀ {c n:Nat},c∈L->c≠rb->c≠cb->RoomAt c n w->RoomAt c n w2:=fun {c n} hm hr hn R =>
  RoomAt.chg ⟨Nat.lt_of_lt_of_le R.1 s1.size,fun j hj=>(R.2.1 j hj).imp fun u hu=>s1.cell hu (by simpa using hr) (tl c hm),fun o=>(World.frozen?_of_block (s1.block c R.1 (by simpa using hr) (tl c hm))).trans (R.2.2 o)⟩ hc (by simpa using hn)
 have sub:∀ b,b∈L->b∈cb::L:=fun b hb=>List.mem_cons_of_mem _ hb;have pt:∀ b,b∈f0++f1++F 1++F 2++F 3++F 4->wq.heap.size<=b∧b<cb:=fun b hb=>by
  rw [<- ef] at hb;simp only [List.mem_append] at hb;rcases hb with (((hb|hb)|hb)|hb)|hb<;>exact ⟨h.lo (by decide) hb,h.lt _ (by decide) _ hb⟩
 refine ⟨(hp.th.chg hc q).closed sub,hp.mp.same mrR_fits (hp.fz.same (Step.of_chg hc) q) hc.size,(hp.fz.step (Step.of_chg hc)).closed sub,hp.lat,hp.prg,by rw [e2];exact t0,by rw [e2];exact t1,by rw [e2];exact t2,
  fun j hj=>keep_cell_chg hc (s1.cell (h.s j hj) (nr _ (by omega)) (tn _ (by omega))) (by simp),room C3 (by omega) (by omega) h.q0,room C4 (by omega) (by omega) h.q1,
  ⟨hc.os.trans (s1.os.trans h.st.os),hc.tape.trans (s1.tape.trans h.st.tape),hc.output.trans (s1.output.trans h.st.output),Nat.le_trans h.st.size (Nat.le_trans s1.size hc.size),fun k hk hn=>?_⟩,
  ⟨_,_,_,_,_,_,_,p.same (fun b hb hl=>(hc.block b (Nat.lt_of_lt_of_le hl s1.size) (by have:=(pt b hb).2;simp;omega)).trans (s1.block b hl (nr b (pt b hb).1) (tn b (pt b hb).1))) (Nat.le_trans s1.size hc.size),fun b hb=>Nat.le_trans l0 (pt b hb).1⟩⟩
 have hk':=Nat.lt_of_lt_of_le hk h.st.size;exact ((hc.block k (Nat.lt_of_lt_of_le hk' s1.size) (by simp;omega)).trans (s1.block k hk' hn (h.tf k hk))).trans (h.st.block k hk hn)
theorem Six.set0 {b:Nat} {v0 v1 v2 v3 v4 v5 v:Value} {w:World} (h:Six b v0 v1 v2 v3 v4 v5 w):Six b v v1 v2 v3 v4 v5 (w.setCell ⟨b,0,none⟩ v):=fun j hj=>by
 have h':=h.set (k:=0) (v:=v) (by decide) j hj;have:j=0∨j=1∨j=2∨j=3∨j=4∨j=5:=by omega
 rcases this with rfl|rfl|rfl|rfl|rfl|rfl<;>simpa using h'
theorem Six.set1 {b:Nat} {v0 v1 v2 v3 v4 v5 v:Value} {w:World} (h:Six b v0 v1 v2 v3 v4 v5 w):Six b v0 v v2 v3 v4 v5 (w.setCell ⟨b,1,none⟩ v):=fun j hj=>by
 have h':=h.set (k:=1) (v:=v) (by decide) j hj;have:j=0∨j=1∨j=2∨j=3∨j=4∨j=5:=by omega
 rcases this with rfl|rfl|rfl|rfl|rfl|rfl<;>simpa using h'
theorem Six.set2 {b:Nat} {v0 v1 v2 v3 v4 v5 v:Value} {w:World} (h:Six b v0 v1 v2 v3 v4 v5 w):Six b v0 v1 v v3 v4 v5 (w.setCell ⟨b,2,none⟩ v):=fun j hj=>by
 have h':=h.set (k:=2) (v:=v) (by decide) j hj;have:j=0∨j=1∨j=2∨j=3∨j=4∨j=5:=by omega
 rcases this with rfl|rfl|rfl|rfl|rfl|rfl<;>simpa using h'
theorem Six.set3 {b:Nat} {v0 v1 v2 v3 v4 v5 v:Value} {w:World} (h:Six b v0 v1 v2 v3 v4 v5 w):Six b v0 v1 v2 v v4 v5 (w.setCell ⟨b,3,none⟩ v):=fun j hj=>by
 have h':=h.set (k:=3) (v:=v) (by decide) j hj;have:j=0∨j=1∨j=2∨j=3∨j=4∨j=5:=by omega
 rcases this with rfl|rfl|rfl|rfl|rfl|rfl<;>simpa using h'
theorem Six.set4 {b:Nat} {v0 v1 v2 v3 v4 v5 v:Value} {w:World} (h:Six b v0 v1 v2 v3 v4 v5 w):Six b v0 v1 v2 v3 v v5 (w.setCell ⟨b,4,none⟩ v):=fun j hj=>by
 have h':=h.set (k:=4) (v:=v) (by decide) j hj;have:j=0∨j=1∨j=2∨j=3∨j=4∨j=5:=by omega
 rcases this with rfl|rfl|rfl|rfl|rfl|rfl<;>simpa using h'
theorem Six.set5 {b:Nat} {v0 v1 v2 v3 v4 v5 v:Value} {w:World} (h:Six b v0 v1 v2 v3 v4 v5 w):Six b v0 v1 v2 v3 v4 v (w.setCell ⟨b,5,none⟩ v):=fun j hj=>by
 have h':=h.set (k:=5) (v:=v) (by decide) j hj;have:j=0∨j=1∨j=2∨j=3∨j=4∨j=5:=by omega
 rcases this with rfl|rfl|rfl|rfl|rfl|rfl<;>simpa using h'
theorem PreS.in6 (h:PreS L rb fq rc cb ws wq M T lm fm va vn vc la ln lc pa pn pc ms hs qs lx ly lz v0 v1 v2 v3 v4 v5 B F w) {f0 f1:List Nat} (ef:F 0=f0++f1):∀ b,b∈f0++f1++F 1++F 2++F 3++F 4->wq.heap.size<=b∧b<cb:=fun b hb=>by
 rw [<- ef] at hb;simp only [List.mem_append] at hb;rcases hb with (((hb|hb)|hb)|hb)|hb<;>exact ⟨h.lo (by decide) hb,h.lt _ (by decide) _ hb⟩
theorem PreS.six (h:PreS L rb fq rc cb ws wq M T lm fm va vn vc la ln lc pa pn pc ms hs qs lx ly lz v0 v1 v2 v3 v4 v5 B F w):cb+1<w.heap.size:=block_of_cell (h.s 0 (by decide))
theorem PreS.atm (C:PreC L rb fq rc cb ws wq) (h:PreS L rb fq rc cb ws wq M T lm fm va vn vc la ln lc pa pn pc ms hs qs lx ly lz v0 v1 v2 v3 v4 v5 B F w) {m hh:List Int} {x0 x1:Value} {d0 d1:List Nat} (g0:SlR 1 intR w m x0 d0) (g1:SlR 1 intR w hh x1 d1) (hd:∀ b,b∈d0++d1->cb+1<b) (e2:w'=(w.setCell ⟨cb+1,0,none⟩ x0).setCell ⟨cb+1,1,none⟩ x1):OrE gFit L rb rc cb ws T lm fm va vn vc la ln lc pa pn pc x0 x1 v2 v3 v4 v5 w':=by
 obtain ⟨f0,f1,ef,p⟩:=h.read;have pt:=h.in6 ef;have hc:Chg [cb+1] w w':=by rw [e2];exact (store_chg _).trans' (store_chg _)
 have l4:=C.l4;have l0:=C.l0;refine h.fin C hc (by simp;omega) (by rw [e2];exact h.s.set0.set1) ⟨⟨⟨m,hh⟩,qs,lx,ly,lz⟩,d0,d1,F 1,F 2,F 3,F 4,⟨g0.chg intR_fits hc (fun b hb e=>by have:=hd b (by simp [hb]);simp at e;omega),g1.chg intR_fits hc (fun b hb e=>by have:=hd b (by simp [hb]);simp at e;omega),
  p.h2.chg intR_fits hc (fun b hb e=>by have:=pt b (by simp [hb]);simp at e;omega),p.h3.chg jobR_fits hc (fun b hb e=>by have:=pt b (by simp [hb]);simp at e;omega),p.h4.chg jobR_fits hc (fun b hb e=>by have:=pt b (by simp [hb]);simp at e;omega),p.h5.chg jobR_fits hc (fun b hb e=>by have:=pt b (by simp [hb]);simp at e;omega)⟩,fun b hb=>?_⟩
 simp only [List.mem_append] at hb;rcases hb with ((((hb|hb)|hb)|hb)|hb)|hb
 ·have:=hd b (by simp [hb]);omega
 ·have:=hd b (by simp [hb]);omega
 all_goals exact Nat.le_trans l0 (h.lo (by decide) hb)
theorem PreS.ask (C:PreC L rb fq rc cb ws wq) (h:PreS L rb fq rc cb ws wq M T lm fm va vn vc la ln lc pa pn pc ms hs qs lx ly lz v0 v1 v2 v3 v4 v5 B F w) {ab ao an ac i:Nat} {x:Int} (hv:v2 = .slice (some ⟨ab,ao,none⟩) an ac) (hi:i<an) (e2:w'=w.setCell ⟨ab,ao+i,none⟩ (.int .i64 x)):OrE gFit L rb rc cb ws T lm fm va vn vc la ln lc pa pn pc v0 v1 v2 v3 v4 v5 w':=by
 obtain ⟨f0,f1,ef,p⟩:=h.read;have pt:=h.in6 ef;have h2:=p.h2;rw [hv] at h2;obtain ⟨h2',hc,-⟩:=IntS.set h2 rfl hi x;rw [<- e2] at h2' hc;have l4:=C.l4;have a0:∀ b,b∈f0++f1->b∉F 1:=fun b hb=>h.ap (k:=0) (j:=1) (by decide) (by decide) (by decide) b (by rw [ef];exact hb);refine h.fin C hc (fun b hb=>⟨h.lo (by decide) hb,by have:=h.lt 1 (by decide) b hb;omega⟩) (h.s.chg hc (fun hm=>by have:=h.lt 1 (by decide) _ hm;omega)) ⟨⟨⟨ms,hs⟩,qs.set i x,lx,ly,lz⟩,f0,f1,F 1,F 2,F 3,F 4,⟨p.h0.chg intR_fits hc (fun b hb=>a0 b (by simp [hb])),p.h1.chg intR_fits hc (fun b hb=>a0 b (by simp [hb])),by rw [hv];exact h2',
  p.h3.chg jobR_fits hc (h.ap (by decide) (by decide) (by decide)),p.h4.chg jobR_fits hc (h.ap (by decide) (by decide) (by decide)),p.h5.chg jobR_fits hc (h.ap (by decide) (by decide) (by decide))⟩,fun b hb=>Nat.le_trans C.l0 (pt b hb).1⟩
theorem PreS.less (C:PreC L rb fq rc cb ws wq) (h:PreS L rb fq rc cb ws wq M T lm fm va vn vc la ln lc pa pn pc ms hs qs lx ly lz v0 v1 v2 v3 v4 v5 B F w) {ab ao an ac:Nat} (hv:v2 = .slice (some ⟨ab,ao,none⟩) an ac) (hi:1<=an) (e2:w'=w.setCell ⟨cb+1,2,none⟩ (.slice (some ⟨ab,ao+1,none⟩) (an - 1) (ac - 1))):OrE gFit L rb rc cb ws T lm fm va vn vc la ln lc pa pn pc v0 v1 (.slice (some ⟨ab,ao+1,none⟩) (an - 1) (ac - 1)) v3 v4 v5 w':=by
 obtain ⟨f0,f1,ef,p⟩:=h.read;have pt:=h.in6 ef;have h2:=p.h2;rw [hv] at h2;obtain ⟨fd,hd,hds⟩:=h2.drop 1 hi;rw [Nat.mul_one] at hd;have hc:Chg [cb+1] w w':=by rw [e2];exact store_chg _
 have l4:=C.l4;have l0:=C.l0;have np:∀ b,b∈f0++f1++F 1++F 2++F 3++F 4->b∉[cb+1]:=fun b hb e=>by have:=pt b hb;simp at e;omega
 refine h.fin C hc (by simp;omega) (by rw [e2];exact h.s.set2) ⟨⟨⟨ms,hs⟩,qs.drop 1,lx,ly,lz⟩,f0,f1,fd,F 2,F 3,F 4,⟨p.h0.chg intR_fits hc (fun b hb=>np b (by simp [hb])),p.h1.chg intR_fits hc (fun b hb=>np b (by simp [hb])),hd.chg intR_fits hc (fun b hb=>np b (by simp [hds b hb])),
  p.h3.chg jobR_fits hc (fun b hb=>np b (by simp [hb])),p.h4.chg jobR_fits hc (fun b hb=>np b (by simp [hb])),p.h5.chg jobR_fits hc (fun b hb=>np b (by simp [hb]))⟩,fun b hb=>Nat.le_trans l0 (pt b ?_).1⟩
 simp only [List.mem_append] at hb ⊢;rcases hb with ((((hb|hb)|hb)|hb)|hb)|hb
 all_goals first|exact .inl (.inl (.inl (.inr (hds b hb))))|simp [hb]
theorem PreS.push3 (C:PreC L rb fq rc cb ws wq) (h:PreS L rb fq rc cb ws wq M T lm fm va vn vc la ln lc pa pn pc ms hs qs lx ly lz v0 v1 v2 v3 v4 v5 B F w) {fps:List (List Nat)} (ef:F 2=v3.ownBlock.toList++fps.flatten) {v':Value} {wb w2:World} {fd:List Nat} {y:Job} (hsl:SlR 5 jobR wb (lx++[y]) v' (v'.ownBlock.toList++(fps.flatten++fd))) (hcg:Chg v3.ownBlock.toList w wb) (hbk:v'.ownBlock=v3.ownBlock∨v'.ownBlock=some w.heap.size) (hfd:∀ b,b∈fd->cb+1<b) (e2:w2=wb.setCell ⟨cb+1,3,none⟩ v'):OrE gFit L rb rc cb ws T lm fm va vn vc la ln lc pa pn pc v0 v1 v2 v' v4 v5 w2:=by
 obtain ⟨f0,f1,e0,p⟩:=h.read;have l4:=C.l4;have l0:=C.l0;have h6:=h.six;have inF:∀ b,v3.ownBlock=some b->b∈F 2:=fun b e=>by rw [ef];simp [e]
 have hc2:Chg [cb+1] wb w2:=by rw [e2];exact store_chg _
 have hc:Chg (v3.ownBlock.toList++[cb+1]) w w2:=hcg.trans hc2;have nx:∀ b,b∉F 2->b<cb->b∉v3.ownBlock.toList++[cb+1]:=fun b h1 h2 hm=>by
  simp only [List.mem_append,Option.mem_toList,List.mem_singleton] at hm;rcases hm with hm|hm
  ·exact h1 (inF b hm)
  ·omega
 have a0:∀ b,b∈f0++f1->b∉v3.ownBlock.toList++[cb+1]:=fun b hb=>nx b (h.ap (k:=0) (j:=2) (by decide) (by decide) (by decide) b (by rw [e0];exact hb)) (h.lt 0 (by decide) b (by rw [e0];exact hb));have own:∀ b,b∈v'.ownBlock.toList++(fps.flatten++fd)->ws.heap.size<=b∧b≠cb+1:=fun b hb=>by
  simp only [List.mem_append,Option.mem_toList] at hb;rcases hb with hb|hb|hb
  ·rcases hbk with q|q
   ·have hm:=inF b (q.symm.trans hb);have:=h.lo (by decide) hm;have:=h.lt 2 (by decide) b hm;omega
   ·rw [q] at hb;cases hb;have:=h.st.size;omega
  ·have hm:b∈F 2:=by rw [ef];exact List.mem_append_right _ hb
   have:=h.lo (by decide) hm;have:=h.lt 2 (by decide) b hm;omega
  ·have:=hfd b hb;omega
 have np':∀ b,b∈v'.ownBlock.toList++(fps.flatten++fd)->b∉[cb+1]:=fun b hb e=>(own b hb).2 (by simpa using e);refine h.fin C hc (fun b hb=>?_) (by rw [e2];exact (h.s.chg hcg (fun hm=>by have:=h.lt 2 (by decide) _ (inF _ (by simpa using hm));omega)).set3) ⟨⟨⟨ms,hs⟩,qs,lx++[y],ly,lz⟩,f0,f1,F 1,(v'.ownBlock.toList++(fps.flatten++fd)),F 3,F 4,⟨p.h0.chg intR_fits hc (fun b hb=>a0 b (by simp [hb])),p.h1.chg intR_fits hc (fun b hb=>a0 b (by simp [hb])),p.h2.chg intR_fits hc (fun b hb=>nx b (h.ap (k:=1) (j:=2) (by decide) (by decide) (by decide) b hb) (h.lt 1 (by decide) b hb)),
  hsl.chg jobR_fits hc2 np',p.h4.chg jobR_fits hc (fun b hb=>nx b (h.ap (k:=3) (j:=2) (by decide) (by decide) (by decide) b hb) (h.lt 3 (by decide) b hb)),p.h5.chg jobR_fits hc (fun b hb=>nx b (h.ap (k:=4) (j:=2) (by decide) (by decide) (by decide) b hb) (h.lt 4 (by decide) b hb))⟩,fun b hb=>?_⟩
 ·simp only [List.mem_append,Option.mem_toList,List.mem_singleton] at hb;rcases hb with hb|hb
  ·have hm:=inF b hb;have:=h.lo (by decide) hm;have:=h.lt 2 (by decide) b hm;omega
  ·omega
 ·rw [<- e0] at hb;rcases List.mem_append.1 hb with hb|hb
  rcases List.mem_append.1 hb with hb|hb
  rcases List.mem_append.1 hb with hb|hb
  rcases List.mem_append.1 hb with hb|hb
  all_goals first|exact (own b hb).1|exact Nat.le_trans l0 (h.lo (by decide) hb)
theorem PreS.push4 (C:PreC L rb fq rc cb ws wq) (h:PreS L rb fq rc cb ws wq M T lm fm va vn vc la ln lc pa pn pc ms hs qs lx ly lz v0 v1 v2 v3 v4 v5 B F w) {fps:List (List Nat)} (ef:F 3=v4.ownBlock.toList++fps.flatten) {v':Value} {wb w2:World} {fd:List Nat} {y:Job} (hsl:SlR 5 jobR wb (ly++[y]) v' (v'.ownBlock.toList++(fps.flatten++fd))) (hcg:Chg v4.ownBlock.toList w wb) (hbk:v'.ownBlock=v4.ownBlock∨v'.ownBlock=some w.heap.size) (hfd:∀ b,b∈fd->cb+1<b) (e2:w2=wb.setCell ⟨cb+1,4,none⟩ v'):OrE gFit L rb rc cb ws T lm fm va vn vc la ln lc pa pn pc v0 v1 v2 v3 v' v5 w2:=by
 obtain ⟨f0,f1,e0,p⟩:=h.read;have l4:=C.l4;have l0:=C.l0;have h6:=h.six;have inF:∀ b,v4.ownBlock=some b->b∈F 3:=fun b e=>by rw [ef];simp [e]
 have hc2:Chg [cb+1] wb w2:=by rw [e2];exact store_chg _
 have hc:Chg (v4.ownBlock.toList++[cb+1]) w w2:=hcg.trans hc2;have nx:∀ b,b∉F 3->b<cb->b∉v4.ownBlock.toList++[cb+1]:=fun b h1 h2 hm=>by
  simp only [List.mem_append,Option.mem_toList,List.mem_singleton] at hm;rcases hm with hm|hm
  ·exact h1 (inF b hm)
  ·omega
 have a0:∀ b,b∈f0++f1->b∉v4.ownBlock.toList++[cb+1]:=fun b hb=>nx b (h.ap (k:=0) (j:=3) (by decide) (by decide) (by decide) b (by rw [e0];exact hb)) (h.lt 0 (by decide) b (by rw [e0];exact hb));have own:∀ b,b∈v'.ownBlock.toList++(fps.flatten++fd)->ws.heap.size<=b∧b≠cb+1:=fun b hb=>by
  simp only [List.mem_append,Option.mem_toList] at hb;rcases hb with hb|hb|hb
  ·rcases hbk with q|q
   ·have hm:=inF b (q.symm.trans hb);have:=h.lo (by decide) hm;have:=h.lt 3 (by decide) b hm;omega
   ·rw [q] at hb;cases hb;have:=h.st.size;omega
  ·have hm:b∈F 3:=by rw [ef];exact List.mem_append_right _ hb
   have:=h.lo (by decide) hm;have:=h.lt 3 (by decide) b hm;omega
  ·have:=hfd b hb;omega
 have np':∀ b,b∈v'.ownBlock.toList++(fps.flatten++fd)->b∉[cb+1]:=fun b hb e=>(own b hb).2 (by simpa using e);refine h.fin C hc (fun b hb=>?_) (by rw [e2];exact (h.s.chg hcg (fun hm=>by have:=h.lt 3 (by decide) _ (inF _ (by simpa using hm));omega)).set4) ⟨⟨⟨ms,hs⟩,qs,lx,ly++[y],lz⟩,f0,f1,F 1,F 2,(v'.ownBlock.toList++(fps.flatten++fd)),F 4,⟨p.h0.chg intR_fits hc (fun b hb=>a0 b (by simp [hb])),p.h1.chg intR_fits hc (fun b hb=>a0 b (by simp [hb])),p.h2.chg intR_fits hc (fun b hb=>nx b (h.ap (k:=1) (j:=3) (by decide) (by decide) (by decide) b hb) (h.lt 1 (by decide) b hb)),
  p.h3.chg jobR_fits hc (fun b hb=>nx b (h.ap (k:=2) (j:=3) (by decide) (by decide) (by decide) b hb) (h.lt 2 (by decide) b hb)),hsl.chg jobR_fits hc2 np',p.h5.chg jobR_fits hc (fun b hb=>nx b (h.ap (k:=4) (j:=3) (by decide) (by decide) (by decide) b hb) (h.lt 4 (by decide) b hb))⟩,fun b hb=>?_⟩
 ·simp only [List.mem_append,Option.mem_toList,List.mem_singleton] at hb;rcases hb with hb|hb
  ·have hm:=inF b hb;have:=h.lo (by decide) hm;have:=h.lt 3 (by decide) b hm;omega
  ·omega
 ·rw [<- e0] at hb;rcases List.mem_append.1 hb with hb|hb
  rcases List.mem_append.1 hb with hb|hb
  rcases List.mem_append.1 hb with hb|hb
  rcases List.mem_append.1 hb with hb|hb
  all_goals first|exact (own b hb).1|exact Nat.le_trans l0 (h.lo (by decide) hb)
theorem PreS.push5 (C:PreC L rb fq rc cb ws wq) (h:PreS L rb fq rc cb ws wq M T lm fm va vn vc la ln lc pa pn pc ms hs qs lx ly lz v0 v1 v2 v3 v4 v5 B F w) {fps:List (List Nat)} (ef:F 4=v5.ownBlock.toList++fps.flatten) {v':Value} {wb w2:World} {fd:List Nat} {y:Job} (hsl:SlR 5 jobR wb (lz++[y]) v' (v'.ownBlock.toList++(fps.flatten++fd))) (hcg:Chg v5.ownBlock.toList w wb) (hbk:v'.ownBlock=v5.ownBlock∨v'.ownBlock=some w.heap.size) (hfd:∀ b,b∈fd->cb+1<b) (e2:w2=wb.setCell ⟨cb+1,5,none⟩ v'):OrE gFit L rb rc cb ws T lm fm va vn vc la ln lc pa pn pc v0 v1 v2 v3 v4 v' w2:=by
 obtain ⟨f0,f1,e0,p⟩:=h.read;have l4:=C.l4;have l0:=C.l0;have h6:=h.six;have inF:∀ b,v5.ownBlock=some b->b∈F 4:=fun b e=>by rw [ef];simp [e]
 have hc2:Chg [cb+1] wb w2:=by rw [e2];exact store_chg _
 have hc:Chg (v5.ownBlock.toList++[cb+1]) w w2:=hcg.trans hc2;have nx:∀ b,b∉F 4->b<cb->b∉v5.ownBlock.toList++[cb+1]:=fun b h1 h2 hm=>by
  simp only [List.mem_append,Option.mem_toList,List.mem_singleton] at hm;rcases hm with hm|hm
  ·exact h1 (inF b hm)
  ·omega
 have a0:∀ b,b∈f0++f1->b∉v5.ownBlock.toList++[cb+1]:=fun b hb=>nx b (h.ap (k:=0) (j:=4) (by decide) (by decide) (by decide) b (by rw [e0];exact hb)) (h.lt 0 (by decide) b (by rw [e0];exact hb));have own:∀ b,b∈v'.ownBlock.toList++(fps.flatten++fd)->ws.heap.size<=b∧b≠cb+1:=fun b hb=>by
  simp only [List.mem_append,Option.mem_toList] at hb;rcases hb with hb|hb|hb
  ·rcases hbk with q|q
   ·have hm:=inF b (q.symm.trans hb);have:=h.lo (by decide) hm;have:=h.lt 4 (by decide) b hm;omega
   ·rw [q] at hb;cases hb;have:=h.st.size;omega
  ·have hm:b∈F 4:=by rw [ef];exact List.mem_append_right _ hb
   have:=h.lo (by decide) hm;have:=h.lt 4 (by decide) b hm;omega
  ·have:=hfd b hb;omega
 have np':∀ b,b∈v'.ownBlock.toList++(fps.flatten++fd)->b∉[cb+1]:=fun b hb e=>(own b hb).2 (by simpa using e);refine h.fin C hc (fun b hb=>?_) (by rw [e2];exact (h.s.chg hcg (fun hm=>by have:=h.lt 4 (by decide) _ (inF _ (by simpa using hm));omega)).set5) ⟨⟨⟨ms,hs⟩,qs,lx,ly,lz++[y]⟩,f0,f1,F 1,F 2,F 3,(v'.ownBlock.toList++(fps.flatten++fd)),⟨p.h0.chg intR_fits hc (fun b hb=>a0 b (by simp [hb])),p.h1.chg intR_fits hc (fun b hb=>a0 b (by simp [hb])),p.h2.chg intR_fits hc (fun b hb=>nx b (h.ap (k:=1) (j:=4) (by decide) (by decide) (by decide) b hb) (h.lt 1 (by decide) b hb)),
  p.h3.chg jobR_fits hc (fun b hb=>nx b (h.ap (k:=2) (j:=4) (by decide) (by decide) (by decide) b hb) (h.lt 2 (by decide) b hb)),p.h4.chg jobR_fits hc (fun b hb=>nx b (h.ap (k:=3) (j:=4) (by decide) (by decide) (by decide) b hb) (h.lt 3 (by decide) b hb)),hsl.chg jobR_fits hc2 np'⟩,fun b hb=>?_⟩
 ·simp only [List.mem_append,Option.mem_toList,List.mem_singleton] at hb;rcases hb with hb|hb
  ·have hm:=inF b hb;have:=h.lo (by decide) hm;have:=h.lt 4 (by decide) b hm;omega
  ·omega
 ·rw [<- e0] at hb;rcases List.mem_append.1 hb with hb|hb
  rcases List.mem_append.1 hb with hb|hb
  rcases List.mem_append.1 hb with hb|hb
  rcases List.mem_append.1 hb with hb|hb
  all_goals first|exact (own b hb).1|exact Nat.le_trans l0 (h.lo (by decide) hb)
end
end Go.Proofs.Ytmcjklicepaiaaa
