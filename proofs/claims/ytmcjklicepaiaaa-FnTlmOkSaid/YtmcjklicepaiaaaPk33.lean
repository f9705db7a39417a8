/-
 Texts of this claim laid together: TL.
-/
import Derived.Test.YtmcjklicepaiaaaPk32
set_option linter.unusedVariables false
set_option linter.unusedSimpArgs false
namespace Go.Proofs.Ytmcjklicepaiaaa
open Go.RowKit Go.WideShapes
variable {G:Gd} {L:List Nat} {T T':Tab} {w w':World} {fm fw fh fa:List Nat} {lm:List MR} {vm vl vw vh va:Value} {pa la:Option Addr} {pc lc m:Nat}
theorem SlT.jobsF {a:Option Addr} {n cap:Nat} (h:SlT T 3 a n) (hT:TH G L T w) (hcap:n<=cap) (hcm:cap<=maxLen):∃ l fp,SlR 5 jobR w l (.slice a n cap) fp∧(∀ x,x∈l->jobFine x)∧(∀ c,c∈fp->c∉L)∧l.length=n:=by
 rcases h with rfl|⟨b,o,x,rfl,hb,hk,hn⟩
 ·exact ⟨[],[],⟨a,0,cap,rfl,rfl,hcap,hcm,.inl ⟨rfl,rfl⟩⟩,by simp,by simp,rfl⟩
 ·have main:∀ q,q<=n->∃ (l:List Job) (fps:List (List Nat)),l.length=q∧fps.length=q∧(∀ x,x∈l->jobFine x)∧(∀ f,f∈fps->∀ c,c∈f->c∉L)∧∀ i (h:i<l.length) (h':i<fps.length),∃ cs,jobR w l[i] cs fps[i]∧∀ j (hj:j<cs.length),w.cell? ⟨b,x.lo+o*kK 3+i*kK 3+j,none⟩=some cs[j]:=by
   intro q
   induction q with
   | zero=>exact fun _=>⟨[],[],rfl,rfl,by simp,by simp,fun i h=>absurd h (by simp)⟩
   | succ q ih =>
    intro hq;obtain ⟨l,fps,h1,h2,h3,hF,h4⟩:=ih (by omega);obtain ⟨cs,g1,⟨y,fp,hR,hy,hz⟩,g3⟩:=hT.at' hb hk hn (show q<n by omega);refine ⟨l++[y],fps++[fp],by simp [h1],by simp [h2],fun z hz=>?_,fun f hf c hc=>?_,fun i h h'=>?_⟩
    ·rcases List.mem_append.1 hz with hz|hz
     ·exact h3 z hz
     ·rw [List.mem_singleton] at hz;subst hz;exact hy
    ·rcases List.mem_append.1 hf with hf|hf
     ·exact hF f hf c hc
     ·rw [List.mem_singleton] at hf;subst hf;exact (hz c hc).2.1
    ·by_cases hiq:i<q
     ·obtain ⟨cs',hR',hc'⟩:=h4 i (by omega) (by omega);exact ⟨cs',by rw [List.getElem_append_left (by omega),List.getElem_append_left (by omega)];exact hR',hc'⟩
     ·have hi':i=q:=by simp [h1] at h;omega
      subst hi';refine ⟨cs,?_,g3⟩;rw [List.getElem_append_right (by omega),List.getElem_append_right (by omega)];simpa [h1,h2] using hR
  obtain ⟨l,fps,h1,h2,h3,hF,h4⟩:=main n (Nat.le_refl _);refine ⟨l,b::fps.flatten,⟨_,n,cap,rfl,h1,hcap,hcm,.inr ⟨b,_,fps,rfl,hT.lt b x hb,rfl,by omega,h4⟩⟩,h3,fun c hc hm=>?_,h1⟩;rcases List.mem_cons.1 hc with rfl|hc
  ·rw [hT.rd c hm] at hb;cases hb
  ·obtain ⟨f,hf,hcf⟩:=List.mem_flatten.1 hc;exact hF f hf c hcf hm
theorem Step.drop {fp fq:List Nat} (h:Step fp T w T' w') (hs:∀ b,b∈fp->b<w.heap.size->b∈fq):Step fq T w T' w' :=
 ⟨h.os,h.tape,h.output,h.size,fun b hb hn ht=>h.block b hb (fun hm=>hn (hs b hm hb)) ht,h.ext,h.fresh⟩
theorem RdAt.move {rb:Nat} {fq fp:List Nat} {N:Int} (h:RdAt w rb fq N) (s:Step fp T w T' w') (h1:T rb=none) (h2:∀ b,b∈fq->T b=none) (h3:rb∉fp) (h4:∀ b,b∈fq->b∉fp):RdAt w' rb fq N:=by
 have hlt:=h.lt;obtain ⟨l,v,p,h0,hb,hn,hl,hp,p0,p1,hf⟩:=h;have e:w'.heap[rb]?=w.heap[rb]?:=s.block rb hlt h3 h1;exact ⟨l,v,p,s.cell h0 h3 h1,hb.same byteR_fits (fun b hbb=>s.block b (hb.lt byteR_fits b hbb) (h4 b hbb) (h2 b hbb)) s.size,hn,hl,s.cell hp h3 h1,p0,p1,(World.frozen?_of_block e).trans hf⟩
variable {rb rc cb sb:Nat} {fq:List Nat} {T0:Tab} {w0:World} {M M':Int} {ms hs qs ms' hs' qs':List Int} {xa ya za ea xa' ya' za' ea':Option Addr} {xn xc yn yc zn zc en ec xn' xc' yn' yc' zn' zc' en' ec':Nat}
structure RunC (L:List Nat) (rb rc cb sb:Nat) (fq:List Nat) (w0:World) (fw fh fa:List Nat):Prop where
 c:TlmC L fw fh fa
 hrb:rb∈L
 hfq:∀ b,b∈fq->b∈L
 hrc:rc∈L
 hrs:rc+1∈L
 hcb:cb∈L
 hsb:sb∈L
 lo:w0.heap.size<=rc
 l1:rc+1<cb
 l2:cb<sb
 lt:rb<rc
 lq:∀ b,b∈fq->b<rc
 lw:∀ b,b∈fw++fh++fa->cb<b∧b<sb
structure RunB (G:Gd) (L:List Nat) (rb rc cb sb:Nat) (fq:List Nat) (T0:Tab) (w0:World) (M:Int) (lm:List MR) (vm:Value) (fm:List Nat) (la:Option Addr) (lc:Nat) (pa:Option Addr) (pc:Nat) (vw vh va:Value) (fw fh fa:List Nat) (m:Nat) (T:Tab) (w:World) (ms hs qs:List Int) (xa:Option Addr) (xn xc:Nat) (ya:Option Addr) (yn yc:Nat) (za:Option Addr) (zn zc:Nat) (ea:Option Addr) (en ec:Nat):Prop where
 th:TH G L T w
 st:Step [rb] T0 w0 T w
 rd:RdAt w rb fq M
 bv:BusV G L lm vm (.slice la 4 lc) fm pa pc T w
 lat:SlA T 1 la 4 lc
 tv:TlmV L vw vh va fw fh fa m T w ms hs qs xa xn xc ya yn yc za zn zc
 ev:SlA T 5 ea en ec
 ne:en<=m
 b0:w.cell? ⟨cb,0,none⟩=some vm
 b1:w.cell? ⟨cb,1,none⟩=some (.slice la 4 lc)
 b2:w.cell? ⟨cb,2,none⟩=some (.slice pa 3 pc)
 s0:w.cell? ⟨sb,0,none⟩=some vw
 s1:w.cell? ⟨sb,1,none⟩=some vh
 s2:w.cell? ⟨sb,2,none⟩=some va
 s3:w.cell? ⟨sb,3,none⟩=some (.slice xa xn xc)
 s4:w.cell? ⟨sb,4,none⟩=some (.slice ya yn yc)
 s5:w.cell? ⟨sb,5,none⟩=some (.slice za zn zc)
 fs:∀ o,w.frozen? ⟨sb,o,none⟩=false
 q0:RoomAt rc 3 w
 q1:RoomAt (rc+1) 6 w
theorem RunB.move {fp:List Nat} (C:RunC L rb rc cb sb fq w0 fw fh fa) (h:RunB G L rb rc cb sb fq T0 w0 M lm vm fm la lc pa pc vw vh va fw fh fa m T w ms hs qs xa xn xc ya yn yc za zn zc ea en ec) (t:TH G L T' w') (s:Step fp T w T' w') (hp:∀ c,c∈fp->c=rb∨c∈fw++fh++fa) (rd:RdAt w' rb fq M') {m':Nat} (hm:m<=m') (tv:TlmV L vw vh va fw fh fa m' T' w' ms' hs' qs' xa xn xc ya yn yc za zn zc) :
 RunB G L rb rc cb sb fq T0 w0 M' lm vm fm la lc pa pc vw vh va fw fh fa m' T' w' ms' hs' qs' xa xn xc ya yn yc za zn zc ea en ec:=by
 have hL:∀ c,c∈fp->c∈L:=fun c hc=>by
  rcases hp c hc with rfl|hc
  ·exact C.hrb
  ·exact C.c.inL c hc
 have n:∀ c,c≠rb->c∉fw++fh++fa->c∉fp:=fun c h1 h2 hm=>(hp c hm).elim h1 h2;have lt:=C.lt;have l1:=C.l1;have l2:=C.l2;have nc:cb∉fp:=n _ (by omega) (fun hm=>by have:=C.lw _ hm;omega);have ns:sb∉fp:=n _ (by omega) (fun hm=>by have:=C.lw _ hm;omega);have n0:rc∉fp:=n _ (by omega) (fun hm=>by have:=C.lw _ hm;omega);have n1:rc+1∉fp:=n _ (by omega) (fun hm=>by have:=C.lw _ hm;omega);have tc:=h.th.rd cb C.hcb;have ts:=h.th.rd sb C.hsb;have rm:∀ {c k:Nat},c∈L->c∉fp->RoomAt c k w->RoomAt c k w':=fun {c k} hc hn hr=>⟨Nat.lt_of_lt_of_le hr.1 s.size,fun j hj=>(hr.2.1 j hj).imp fun u e=>s.cell e hn (h.th.rd c hc),fun o=>(World.frozen?_of_block (s.block c hr.1 hn (h.th.rd c hc))).trans (hr.2.2 o)⟩
 exact ⟨t, ((h.st.mono (fq := rb :: fp) (fun c hc => by simp at hc; simp [hc])).trans (s.mono (fun c hc => by simp [hc]))).drop (fun c hc hl => by
     rcases List.mem_cons.1 hc with rfl | hc
     ·simp
     ·rcases hp c hc with rfl|hc
      ·simp
      ·have:=C.lw c hc;have:=C.lo;omega),rd,h.bv.step s hL,h.lat.ext s.ext,tv,h.ev.ext s.ext,Nat.le_trans h.ne hm,s.cell h.b0 nc tc,s.cell h.b1 nc tc,s.cell h.b2 nc tc,s.cell h.s0 ns ts,s.cell h.s1 ns ts,s.cell h.s2 ns ts,s.cell h.s3 ns ts,s.cell h.s4 ns ts,s.cell h.s5 ns ts,
  fun o=>(World.frozen?_of_block (s.block sb (block_of_cell h.s0) ns ts)).trans (h.fs o),rm C.hrc n0 h.q0,rm C.hrs n1 h.q1⟩
theorem RunB.below (C:RunC L rb rc cb sb fq w0 fw fh fa) (h:RunB G L rb rc cb sb fq T0 w0 M lm vm fm la lc pa pc vw vh va fw fh fa m T w ms hs qs xa xn xc ya yn yc za zn zc ea en ec) (hb:Below w.heap.size w w') :
 RunB G L rb rc cb sb fq T0 w0 M lm vm fm la lc pa pc vw vh va fw fh fa m T w' ms hs qs xa xn xc ya yn yc za zn zc ea en ec :=
 h.move C (h.th.below hb) (Step.of_below [] hb) (by simp) (h.rd.below hb) (Nat.le_refl _) (h.tv.chg (hb.chg []) (by simp))
theorem RunB.draw (C:RunC L rb rc cb sb fq w0 fw fh fa) (h:RunB G L rb rc cb sb fq T0 w0 M lm vm fm la lc pa pc vw vh va fw fh fa m T w ms hs qs xa xn xc ya yn yc za zn zc ea en ec) (hc:Chg [rb] w w') (hr:RdAt w' rb fq M') :
 RunB G L rb rc cb sb fq T0 w0 M' lm vm fm la lc pa pc vw vh va fw fh fa m T w' ms hs qs xa xn xc ya yn yc za zn zc ea en ec :=
 h.move C (h.th.chg hc (by simpa using C.hrb)) (Step.of_chg hc) (fun c hc=>.inl (by simpa using hc)) hr (Nat.le_refl _) (h.tv.chg hc (fun c hm e=>by have:=C.lw c hm;have:=C.lt;have:=C.l1;simp at e;omega))
theorem RunB.push (C:RunC L rb rc cb sb fq w0 fw fh fa) (h:RunB G L rb rc cb sb fq T0 w0 M lm vm fm la lc pa pc vw vh va fw fh fa m T w ms hs qs xa xn xc ya yn yc za zn zc ea en ec) (t:TH G L T' w') (s:Step [] T w T' w') (hA:SlA T' 5 ea' en' ec') (hn:en'<=m) :
 RunB G L rb rc cb sb fq T0 w0 M lm vm fm la lc pa pc vw vh va fw fh fa m T' w' ms hs qs xa xn xc ya yn yc za zn zc ea' en' ec' :=
 { h.move C t s (by simp) (h.rd.move s (h.th.rd rb C.hrb) (fun b hb=>h.th.rd b (C.hfq b hb)) (by simp) (by simp)) (Nat.le_refl _) (TlmV.step C.c h.tv h.th s (by simp)) with ev:=hA,ne:=hn }
theorem RunB.mono (h:RunB G L rb rc cb sb fq T0 w0 M lm vm fm la lc pa pc vw vh va fw fh fa m T w ms hs qs xa xn xc ya yn yc za zn zc ea en ec) (hm:M<=M') :
 RunB G L rb rc cb sb fq T0 w0 M' lm vm fm la lc pa pc vw vh va fw fh fa m T w ms hs qs xa xn xc ya yn yc za zn zc ea en ec:={ h with rd:=h.rd.mono hm }
theorem RunB.box (C:RunC L rb rc cb sb fq w0 fw fh fa) (h:RunB G L rb rc cb sb fq T0 w0 M lm vm fm la lc pa pc vw vh va fw fh fa m T w ms hs qs xa xn xc ya yn yc za zn zc ea en ec) (hc:Chg [sb] w w') (s0:w'.cell? ⟨sb,0,none⟩=some vw) (s1:w'.cell? ⟨sb,1,none⟩=some vh) (s2:w'.cell? ⟨sb,2,none⟩=some va)
 (s3:w'.cell? ⟨sb,3,none⟩=some (.slice xa' xn' xc')) (s4:w'.cell? ⟨sb,4,none⟩=some (.slice ya' yn' yc')) (s5:w'.cell? ⟨sb,5,none⟩=some (.slice za' zn' zc')) (hx:SlA T 3 xa' xn' xc') (hy:SlA T 3 ya' yn' yc') (hz:SlA T 3 za' zn' zc') (h1:xn'<=m) (h2:yn'<=m) (h3:zn'<=m) (fs:∀ o,w'.frozen? ⟨sb,o,none⟩=false) :
 RunB G L rb rc cb sb fq T0 w0 M lm vm fm la lc pa pc vw vh va fw fh fa m T w' ms hs qs xa' xn' xc' ya' yn' yc' za' zn' zc' ea en ec:=by
 have hL:∀ c,c∈[sb]->c∈L:=by simpa using C.hsb
 have lo:=C.lo;have l1:=C.l1;have l2:=C.l2;have lt:=C.lt;have n:∀ c,c∈fw++fh++fa->c∉[sb]:=fun c hm e=>by have:=C.lw c hm;simp at e;omega
 have nb:∀ c,c<sb->c∉[sb]:=fun c hn hm=>by simp at hm;omega
 have tv:=h.tv.chg hc n;exact ⟨h.th.chg hc hL,h.st.later hc (fun c hm=>by simp at hm;omega),h.rd.chg hc (nb _ (by omega)) (fun c hm=>nb _ (by have:=C.lq c hm;omega)),h.bv.step (Step.of_chg hc) hL,h.lat,⟨tv.lm,tv.lh,tv.la,tv.mem,tv.hol,tv.ask,tv.fr,hx,hy,hz,h1,h2,h3⟩,h.ev,h.ne,
  keep_cell_chg hc h.b0 (nb _ (by omega)),keep_cell_chg hc h.b1 (nb _ (by omega)),keep_cell_chg hc h.b2 (nb _ (by omega)),s0,s1,s2,s3,s4,s5,fs,h.q0.chg hc (nb _ (by omega)),h.q1.chg hc (nb _ (by omega))⟩
theorem RunB.stepped {ok:Bool} {wo:Int} (C:RunC L rb rc cb sb fq w0 fw fh fa) (h:RunB G L rb rc cb sb fq T0 w0 M lm vm fm la lc pa pc vw vh va fw fh fa m T w ms hs qs xa xn xc ya yn yc za zn zc ea en ec) (t:TH G L T' w') (s:Step (fw++fh++fa) T w T' w') (tv:TlmV L vw vh va fw fh fa (m+1) T' w' ms' hs' qs' xa' xn' xc' ya' yn' yc' za' zn' zc') :
 RunB G L rb rc cb sb fq T0 w0 M lm vm fm la lc pa pc vw vh va fw fh fa (m+1) T' w' ms' hs' qs' xa xn xc ya yn yc za zn zc ea en ec :=
 h.move C t s (fun c hc=>.inr hc) (h.rd.move s (h.th.rd rb C.hrb) (fun b hb=>h.th.rd b (C.hfq b hb)) (fun hm=>by have:=C.lw rb hm;have:=C.lt;have:=C.l1;omega) (fun b hb hm=>by have:=C.lw b hm;have:=C.lq b hb;have:=C.l1;omega)) (Nat.le_succ _)
  ⟨tv.lm,tv.lh,tv.la,tv.mem,tv.hol,tv.ask,tv.fr,h.tv.wt.ext s.ext,h.tv.dn.ext s.ext,h.tv.td.ext s.ext,Nat.le_succ_of_le h.tv.nx,Nat.le_succ_of_le h.tv.ny,Nat.le_succ_of_le h.tv.nz⟩
end Go.Proofs.Ytmcjklicepaiaaa
