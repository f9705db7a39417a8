/-
 Texts of this claim laid together: TL3.
-/
import Derived.Test.YtmcjklicepaiaaaPk33
import Derived.Test.YtmcjklicepaiaaaPk34
import Derived.Test.YtmcjklicepaiaaaPk35
import Derived.Test.YtmcjklicepaiaaaPk37
import Derived.Test.YtmcjklicepaiaaaPk43
set_option linter.unusedVariables false
set_option linter.unusedSimpArgs false
namespace Go.Proofs.Ytmcjklicepaiaaa
def tbl20Tlm12:List (List Nat):=[[],[],[1],[],[0,1,2],[0,1,2,4],[0,1,2,3,4,5]]
open Go.RowKit Go.ChangeShapes Go.WideShapes
theorem infoEv:(Try.prog.info? 47).map (fun i=>(i.zero,i.size,i.bytes))=some (some (.agg #[.int .i64 0,.int .i64 0,.int .i64 0]),3,24):=by kernel_rfl
def RunPost (L0:List Nat) (rb:Nat) (fq:List Nat) (T0:Tab) (w0:World) (M:Int) (e:Ending) (w:World):Prop :=
 ∃ T lm fm va vn vc la lc pa pc ms hs qs lx ly lz v0 v1 v2 v3 v4 v5 ea en ec,e = .returned (.tuple #[.agg #[.slice va vn vc,.slice la 4 lc,.slice pa 3 pc],.agg #[v0,v1,v2,v3,v4,v5],.slice ea en ec])∧TH gFit L0 T w∧Step [rb] T0 w0 T w∧RdAt w rb fq M ∧
  BusV gFit L0 lm (.slice va vn vc) (.slice la 4 lc) fm pa pc T w∧SlA T 1 la 4 lc∧lm.length<=7∧SlA T 5 ea en ec∧en<=1000 ∧
  (ms.length=64∧hs.length=6∧qs.length=3∧lx.length<=1000∧ly.length<=1000∧lz.length<=1000)∧((∀ x,x∈lx->jobFine x)∧(∀ x,x∈ly->jobFine x)∧∀ x,x∈lz->jobFine x) ∧
  FNw w0.heap.size 1 intR ms v0 w∧FNw w0.heap.size 1 intR hs v1 w∧FNw w0.heap.size 1 intR qs v2 w∧FNw w0.heap.size 5 jobR lx v3 w∧FNw w0.heap.size 5 jobR ly v4 w∧FNw w0.heap.size 5 jobR lz v5 w ∧
  ∃ wq:World,TH gFit L0 T wq∧BusV gFit L0 lm (.slice va vn vc) (.slice la 4 lc) fm pa pc T wq∧Below wq.heap.size wq w∧w0.heap.size<=wq.heap.size∧Copd wq.heap.size ms hs qs lx ly lz v0 v1 v2 v3 v4 v5 w
theorem cut_at {fp:List Nat} {a w:World} (h:Chg fp a w):∃ q:World,q.heap.size=a.heap.size∧Chg fp a q∧Below q.heap.size q w:=by
 have hs:(w.heap.extract 0 a.heap.size).size=a.heap.size:=by have:=h.size;simp;omega
 have he:∀ k,k<a.heap.size->(w.heap.extract 0 a.heap.size)[k]?=w.heap[k]?:=fun k hk=>by
  rw [Array.getElem?_extract];simp;omega
 exact ⟨{ w with heap:=w.heap.extract 0 a.heap.size },hs,⟨h.os,h.tape,h.output,by rw [hs];exact Nat.le_refl _,fun k hk hn=>(he k hk).trans (h.block k hk hn)⟩,⟨rfl,rfl,rfl,by rw [hs];exact h.size,fun k hk=>(he k (by rw [hs] at hk;exact hk)).symm⟩⟩
def FCopy (B:Nat) (ms hs qs:List Int) (lx ly lz:List Job):Fact:=fun v w=>∃ v0 v1 v2 v3 v4 v5,v = .agg #[v0,v1,v2,v3,v4,v5]∧FNw B 1 intR ms v0 w∧FNw B 1 intR hs v1 w∧FNw B 1 intR qs v2 w∧FNw B 5 jobR lx v3 w∧FNw B 5 jobR ly v4 w∧FNw B 5 jobR lz v5 w∧Copd B ms hs qs lx ly lz v0 v1 v2 v3 v4 v5 w
theorem nwChg {α:Type} {k:Nat} {R:Pr α} (F:Fits k R) {B:Nat} {l:List α} {v:Value} {w w':World} {fp:List Nat} (h:FNw B k R l v w) (hc:Chg fp w w') (hB:∀ c,c∈fp->c<B):FNw B k R l v w':=h.imp fun f h=>⟨h.1.chg F hc (fun c hm e=>by have:=h.2 c hm;have:=hB c e;omega),h.2⟩
theorem FCopy.chg {B:Nat} {ms hs qs:List Int} {lx ly lz:List Job} {v:Value} {w w':World} {fp:List Nat} (h:FCopy B ms hs qs lx ly lz v w) (hc:Chg fp w w') (hB:∀ c,c∈fp->c<B):FCopy B ms hs qs lx ly lz v w':=by
 obtain ⟨v0,v1,v2,v3,v4,v5,e,h0,h1,h2,h3,h4,h5,h6⟩:=h;exact ⟨v0,v1,v2,v3,v4,v5,e,nwChg intR_fits h0 hc hB,nwChg intR_fits h1 hc hB,nwChg intR_fits h2 hc hB,nwChg jobR_fits h3 hc hB,nwChg jobR_fits h4 hc hB,nwChg jobR_fits h5 hc hB,h6.chg hc hB⟩
theorem stCopy (B:Nat) (ms hs qs:List Int) (lx ly lz:List Job):Stable [] (FCopy B ms hs qs lx ly lz):=fun _ _ _ h hc=>h.chg hc (by simp)
def FLaid (q B:Nat) (ms hs qs:List Int) (lx ly lz:List Job):Fact:=fun _ w=>∃ v0 v1 v2 v3 v4 v5,FCs q [v0,v1,v2,v3,v4,v5] undef w∧FCopy B ms hs qs lx ly lz (.agg #[v0,v1,v2,v3,v4,v5]) w
theorem FLaid.chg {q B:Nat} {ms hs qs:List Int} {lx ly lz:List Job} {v:Value} {w w':World} {fp:List Nat} (h:FLaid q B ms hs qs lx ly lz v w) (hc:Chg fp w w') (hq:q∉fp) (hB:∀ c,c∈fp->c<B):FLaid q B ms hs qs lx ly lz v w':=by
 obtain ⟨v0,v1,v2,v3,v4,v5,h,g⟩:=h;exact ⟨v0,v1,v2,v3,v4,v5,fun j hj=>keep_cell_chg hc (h j hj) hq,g.chg hc hB⟩
theorem FLaid.mk' {q B:Nat} {ms hs qs:List Int} {lx ly lz:List Job} {v v0 v1 v2 v3 v4 v5:Value} {w:World} (h:FCs q [v0,v1,v2,v3,v4,v5] undef w) (g:FCopy B ms hs qs lx ly lz (.agg #[v0,v1,v2,v3,v4,v5]) w):FLaid q B ms hs qs lx ly lz v w:=⟨v0,v1,v2,v3,v4,v5,h,g⟩
theorem stLaid (q B:Nat) (ms hs qs:List Int) (lx ly lz:List Job):Stable [] (FLaid q B ms hs qs lx ly lz):=fun _ _ _ h hc=>h.chg hc (by simp) (by simp)
theorem FCs.three {b:Nat} {w:World} {v x y z u0 u1 u2:Value} (h0:w.cell? ⟨b,0,none⟩=some u0) (h1:w.cell? ⟨b,1,none⟩=some u1) (h2:w.cell? ⟨b,2,none⟩=some u2):FCs b [x,y,z] v (((w.setCell ⟨b,0,none⟩ x).setCell ⟨b,1,none⟩ y).setCell ⟨b,2,none⟩ z):=fun j hj=>by
 obtain ⟨t0,t1,t2,-⟩:=fin3 x y z h0 h1 h2;have:j=0∨j=1∨j=2:=by simp at hj;omega
 rcases this with rfl|rfl|rfl
 ·exact t0
 ·exact t1
 ·exact t2
theorem six {w:World} {b:Nat} {u0 u1 u2 u3 u4 u5:Value} (x0 x1 x2 x3 x4 x5:Value) (h0:w.cell? ⟨b,0,none⟩=some u0) (h1:w.cell? ⟨b,1,none⟩=some u1) (h2:w.cell? ⟨b,2,none⟩=some u2) (h3:w.cell? ⟨b,3,none⟩=some u3) (h4:w.cell? ⟨b,4,none⟩=some u4) (h5:w.cell? ⟨b,5,none⟩=some u5) {w':World}
 (e:w'=(((((w.setCell ⟨b,0,none⟩ x0).setCell ⟨b,1,none⟩ x1).setCell ⟨b,2,none⟩ x2).setCell ⟨b,3,none⟩ x3).setCell ⟨b,4,none⟩ x4).setCell ⟨b,5,none⟩ x5) :
 FCs b [x0,x1,x2,x3,x4,x5] undef w'∧(∀ c o,w'.frozen? ⟨c,o,none⟩=w.frozen? ⟨c,o,none⟩)∧Chg [b] w w':=by
 subst e;refine ⟨fun j hj=>?_,fun c o=>by simp only [World.frozen?_setCell],(((((store_chg _).trans' (store_chg _)).trans' (store_chg _)).trans' (store_chg _)).trans' (store_chg _)).trans' (store_chg _)⟩;have:j=0∨j=1∨j=2∨j=3∨j=4∨j=5:=by simp at hj;omega
 rcases this with rfl|rfl|rfl|rfl|rfl|rfl
 ·exact setOther _ (by decide) (setOther _ (by decide) (setOther _ (by decide) (setOther _ (by decide) (setOther _ (by decide) (setSame _ h0)))))
 ·exact setOther _ (by decide) (setOther _ (by decide) (setOther _ (by decide) (setOther _ (by decide) (setSame _ (setOther _ (by decide) h1)))))
 ·exact setOther _ (by decide) (setOther _ (by decide) (setOther _ (by decide) (setSame _ (setOther _ (by decide) (setOther _ (by decide) h2)))))
 ·exact setOther _ (by decide) (setOther _ (by decide) (setSame _ (setOther _ (by decide) (setOther _ (by decide) (setOther _ (by decide) h3)))))
 ·exact setOther _ (by decide) (setSame _ (setOther _ (by decide) (setOther _ (by decide) (setOther _ (by decide) (setOther _ (by decide) h4)))))
 ·exact setSame _ (setOther _ (by decide) (setOther _ (by decide) (setOther _ (by decide) (setOther _ (by decide) (setOther _ (by decide) h5)))))
set_option maxRecDepth 100000 in
set_option maxHeartbeats 25600000 in
theorem l20Tlm_b (L0:List Nat) (rb:Nat) (fq:List Nat) (N n:Int) (hn1:1<=n) (hn:n<=800) (hN:N<=500000000) (T0:Tab) (w:World) (hrb:rb∈L0) (hfq:∀ b,b∈fq->b∈L0) (h:RdAt w rb fq N) (hT:TH gFit L0 T0 w) :
 Calls Try.prog 71 #[.pointer (some ⟨rb,0,none⟩),.int .i64 n] w (RunPost L0 rb fq T0 w (N+300000)):=by
 obtain ⟨i0,ki,kz0,kz1,kz2⟩:=info_parts infoEv;have hlt:=h.lt;have hold:=h.old;obtain ⟨w1,hw1⟩:∃ z,z=(w.alloc (.cells #[.slice none 0 0,.slice none 0 0,.slice none 0 0] 38)).alloc (.cells #[.slice none 0 0,.slice none 0 0,.slice none 0 0,.slice none 0 0,.slice none 0 0,.slice none 0 0] 70):=⟨_,rfl⟩;have b1:Below w.heap.size w w1:=by rw [hw1];exact (below_alloc _ _).trans ((below_alloc _ _).mono (by simp))
 have z1:w1.heap.size=w.heap.size+1+1:=by rw [hw1];simp
 have q0:RoomAt w.heap.size 3 w1:=by rw [hw1];exact (room_alloc rfl (by simp)).below (below_alloc _ _)
 have q1:RoomAt (w.heap.size+1) 6 w1:=by rw [hw1];exact room_alloc (by simp) (by simp)
 have t1:TH gFit ([w.heap.size,w.heap.size+1]++L0) T0 w1:=hT.opens b1 (by simp) (by simp;omega);have HR:=Lib.hid h;have H1:=Lib.hid (h.below b1);have T1:=Lib.hid t1;have B1:=Lib.hid b1;have Q0:=Lib.hid q0;have Q1:=Lib.hid q1;have HRB:=Lib.hid hrb;have HFQ:=Lib.hid hfq;have HOLD:=Lib.hid hold;have Z1:=Lib.hid z1;have HT0:=Lib.hid hT;clear h hT t1 b1 q0 q1 hrb hfq hold z1;go_enter Try.func71,Try.ntmps71
 go_upto_region 1 with fail
 rw [<- hw1];clear hw1;obtain ⟨rc,hrc⟩:∃ z,z=w.heap.size:=⟨_,rfl⟩;rw [<- hrc] at T1 Q0 Q1;rw [<- hrc];have HRC:=Lib.hid hrc;have hrbc:rb<rc:=by omega
 clear hrc hlt;go_wp2_with fail
 refine (l20Bus_any ([rc,rc+1]++L0) rb fq N 6 (by omega) (by omega) (by omega) T0 _ (by simp [HRB.out]) (fun b hb=>by simp [HFQ.out b hb]) H1.out T1.out).mono ?_;rintro e w2 ⟨T,lm,fm,va_,vn,vc,la,lc,pa,pc,hp,hml⟩;have e0:=hp.ret;have HP:=Lib.hid hp;have HML:=Lib.hid hml;rw [e0];clear hp hml e0 H1 T1;obtain ⟨w3,hw3⟩:∃ z,z=w2.alloc (.cells #[.slice va_ vn vc,.slice la 4 lc,.slice pa 3 pc] 38):=⟨_,rfl⟩;have b3:Below w2.heap.size w2 w3:=by rw [hw3];exact below_alloc _ _
 have z3:w3.heap.size=w2.heap.size+1:=by rw [hw3];simp
 have cbs:∀ j (hj:j<3),w3.cell? ⟨w2.heap.size,j,none⟩=some ((#[.slice va_ vn vc,.slice la 4 lc,.slice pa 3 pc]:Array Value)[j]'hj):=fun j hj=>by rw [hw3];exact alloc1_new _ _ _ j (by simp [show j<3 from hj])
 go_upto_region 2 with fail
 rw [<- hw3];clear hw3;have CBS:=Lib.hid cbs;have B3:=Lib.hid b3;have Z3:=Lib.hid z3;clear cbs b3 z3;go_wp2_with fail
 refine (sTlmNew_nil _).mono ?_;rintro e w4 ⟨v0,fw,v1,fh,v2,fa,v3,fp3,v4,fp4,v5,fp5,rfl,g0,g1,g2,-,-,-,gn,b4,rfl,rfl,rfl⟩;obtain ⟨aw,nw,cw,rfl⟩:=g0.form;obtain ⟨ah,nh,ch,rfl⟩:=g1.form;obtain ⟨aa,an,ac,rfl⟩:=g2.form;obtain ⟨w5,hw5⟩:∃ z,z=w4.alloc (.cells #[.slice aw nw cw,.slice ah nh ch,.slice aa an ac,.slice none 0 0,.slice none 0 0,.slice none 0 0] 70):=⟨_,rfl⟩;have b5:Below w4.heap.size w4 w5:=by rw [hw5];exact below_alloc _ _
 have z5:w5.heap.size=w4.heap.size+1:=by rw [hw5];simp
 have sbs:∀ j (hj:j<6),w5.cell? ⟨w4.heap.size,j,none⟩=some ((#[.slice aw nw cw,.slice ah nh ch,.slice aa an ac,.slice none 0 0,.slice none 0 0,.slice none 0 0]:Array Value)[j]'hj):=fun j hj=>by rw [hw5];exact alloc1_new _ _ _ j (by simp [show j<6 from hj])
 have sfs:∀ o,w5.frozen? ⟨w4.heap.size,o,none⟩=false:=fun o=>by rw [hw5];exact World.frozen?_alloc_at _ _ _ _ rfl
 go_upto_region 3 with fail
 rw [<- hw5];clear hw5;obtain ⟨cb,hcb⟩:∃ z,z=w2.heap.size:=⟨_,rfl⟩;obtain ⟨sb,hsb⟩:∃ z,z=w4.heap.size:=⟨_,rfl⟩;rw [<- hcb] at CBS;rw [<- hsb] at sbs sfs;rw [<- hcb,<- hsb];have zz2:=HP.out.st.size;have hb4s:=b4.size;have hlw:∀ c,c∈fw++fh++fa->cb<c∧c<sb:=fun c hc=>by
  have h1:=gn.lo c (by simp only [List.mem_append] at hc ⊢;rcases hc with (hc|hc)|hc<;>simp [hc]);have h2:c<w4.heap.size:=by
   simp only [List.mem_append] at hc;rcases hc with (hc|hc)|hc
   ·exact SlR.lt intR_fits g0 c hc
   ·exact SlR.lt intR_fits g1 c hc
   ·exact SlR.lt intR_fits g2 c hc
  have:=Z3.out;omega
 obtain ⟨L,hL⟩:∃ z,z=([sb,cb]++(fw++fh++fa))++([rc,rc+1]++L0):=⟨_,rfl⟩;have b25:Below w2.heap.size w2 w5:=(B3.out.trans (b4.mono (by have:=Z3.out;omega))).trans (b5.mono (by have:=Z3.out;omega));have hnd:=gn.once;have hon:(fw++fh++fa).Nodup:=by
  have h1:=(List.nodup_append.1 ((List.nodup_append.1 ((List.nodup_append.1 hnd).1)).1)).1;simpa using h1
 have hth5:TH gFit L T w5:=by
  rw [hL];exact HP.out.th.opens b25 (fun c hc=>by
   rcases List.mem_append.1 hc with hc|hc
   ·simp at hc;have:=Z3.out;omega
   ·have:=hlw c hc;omega) (fun c hc=>by
   rcases List.mem_append.1 hc with hc|hc
   ·simp at hc;have:=Z3.out;omega
   ·have:=hlw c hc;omega)
 have C:RunC L rb rc cb sb fq w fw fh fa:=by
  have hz1:=Z1.out;have hrc':=HRC.out;have hz3:=Z3.out;refine ⟨⟨fun c hc=>?_,fun c h1 h2=>?_,fun c h1 h2=>?_,fun c h1 h2=>?_⟩,?_,fun c hc=>?_,?_,?_,?_,?_,by omega,by omega,by omega,hrbc,fun c hc=>by have:=HOLD.out c hc;omega,hlw⟩
  ·rw [hL];simp only [List.mem_append] at hc ⊢;exact .inl (.inr hc)
  ·exact (List.nodup_append.1 (List.nodup_append.1 hon).1).2.2 c h1 c h2 rfl
  ·exact (List.nodup_append.1 hon).2.2 c (by simp [h1]) c h2 rfl
  ·exact (List.nodup_append.1 hon).2.2 c (by simp [h1]) c h2 rfl
  ·rw [hL];simp [HRB.out]
  ·rw [hL];simp [HFQ.out c hc]
  ·rw [hL];simp
  ·rw [hL];simp
  ·rw [hL];simp
  ·rw [hL];simp
 have hLL:∀ c,c∈L0->c∈L:=fun c hc=>by rw [hL];simp [hc]
 have RBX:RunB gFit L rb rc cb sb fq T0 w (N+200000) lm (.slice va_ vn vc) fm la lc pa pc (.slice aw nw cw) (.slice ah nh ch) (.slice aa an ac) fw fh fa 0 T w5 tlmNew.atm.mem tlmNew.atm.holds tlmNew.asked none 0 0 none 0 0 none 0 0 none 0 0:=by
  have hz1:=Z1.out;have hrc':=HRC.out;have hz3:=Z3.out;have fz5:Fz L T w5 fm:=fun d hd=>by
   obtain ⟨f1,f2,f3⟩:=HP.out.fz d hd;refine ⟨f1,?_,Nat.lt_of_lt_of_le f3 b25.size⟩;rw [hL];simp only [List.mem_append,not_or] at f2 ⊢;refine ⟨⟨fun hm=>by simp at hm;omega,?_⟩,f2⟩;exact ⟨⟨fun hm=>by have:=hlw d (by simp [hm]);omega,fun hm=>by have:=hlw d (by simp [hm]);omega⟩,fun hm=>by have:=hlw d (by simp [hm]);omega⟩
  have st2:Step [rb] T0 w T w2:=(Step.of_below (T:=T0) [rb] B1.out).trans HP.out.st;have hc4:Below w3.heap.size w3 w5:=b4.trans (b5.mono (by omega));have rm:∀ {c k:Nat},c∈[rc,rc+1]->RoomAt c k w1->RoomAt c k w5:=fun {c k} hc hr=>by
   have hn:c∉[rb]:=fun hm=>by simp at hc hm;omega
   have ht:T0 c=none:=by
    cases e:T0 c with
    | none=>rfl
    | some x=>have:=HT0.out.lt c x e;simp at hc;omega
   have h2:RoomAt c k w2:=⟨Nat.lt_of_lt_of_le hr.1 HP.out.st.size,fun j hj=>(hr.2.1 j hj).imp fun u e=>HP.out.st.cell e hn ht,fun o=>(World.frozen?_of_block (HP.out.st.block c hr.1 hn ht)).trans (hr.2.2 o)⟩;exact h2.below b25
  exact ⟨hth5,st2.trans (Step.of_below [rb] b25),HP.out.rd.below b25,⟨HP.out.mp.below mrR_fits b25,fz5,HP.out.prg,⟨_,_,_,rfl⟩⟩,HP.out.lat,⟨by simp [tlmNew,atmNew],by simp [tlmNew,atmNew],by simp [tlmNew],SlR.below intR_fits g0 b5,SlR.below intR_fits g1 b5,SlR.below intR_fits g2 b5,
   Free.below (fp:=fw++fh++fa) (fun c hc=>gn.free c (by simp only [List.mem_append] at hc ⊢;rcases hc with (hc|hc)|hc<;>simp [hc])) (fun c hc=>by have:=hlw c hc;omega) b5,SlA.nil _ _,SlA.nil _ _,SlA.nil _ _,Nat.le_refl _,Nat.le_refl _,Nat.le_refl _⟩,SlA.nil _ _,Nat.le_refl _,
   keep_cell hc4 (CBS.out 0 (by decide)),keep_cell hc4 (CBS.out 1 (by decide)),keep_cell hc4 (CBS.out 2 (by decide)),sbs 0 (by decide),sbs 1 (by decide),sbs 2 (by decide),sbs 3 (by decide),sbs 4 (by decide),sbs 5 (by decide),sfs,rm (by simp) Q0.out,rm (by simp) Q1.out⟩
 obtain ⟨t8,s8,a8⟩:=RBX.th.lit0 5 47;have HC:=Lib.hid C;have HB8:=Lib.hid (RBX.push C t8 s8 a8 (Nat.le_refl _));have HLL:=Lib.hid hLL;have hld:∀ c,c∈[rc,rc+1]->c∉fw++fh++fa:=fun c hc hm=>by have:=hlw c hm;have:=C.l1;simp at hc;omega
 have HLD:=Lib.hid hld;clear t8 s8 a8 RBX C hLL hlw hL hth5 hon hnd b25 g0 g1 g2 gn b4 b5 sbs sfs CBS B3 Z3 z5 zz2 hb4s B1 Z1 Q0 Q1 HT0 HR HP hcb hsb hld;go_wp2_with fail
 refine (pick_any rb fq (N+200000) n (by omega) (by omega) (by omega) _ HB8.out.rd).mono ?_;rintro e w6 ⟨x6,rfl,lo6,hi6,h1,h2⟩;obtain ⟨k0,rfl⟩:=Int.eq_ofNat_of_zero_le lo6;have HB6:=Lib.hid (HB8.out.draw HC.out h2 h1);clear h1 h2 HB8;go_wp2_with fail
 go_loopw [9,10] (fun v i wr=>∃ (k m:Nat) (T:Tab) (ms hs qs:List Int) (xa:Option Addr) (xn xc:Nat) (ya:Option Addr) (yn yc:Nat) (za:Option Addr) (zn zc:Nat) (ea:Option Addr) (en ec:Nat),i = .int .i64 k∧v = .slice ea en ec∧m+k<=800∧RunB gFit L rb rc cb sb fq T0 w (N+210000+50*(m:Int)) lm (.slice va_ vn vc) fm la lc pa pc (.slice aw nw cw) (.slice ah nh ch) (.slice aa an ac) fw fh fa m T wr ms hs qs xa xn xc ya yn yc za zn zc ea en ec) (fun _ i _=>(intOf i).toNat)
 case atStart=>exact ⟨k0,0,_,_,_,_,_,_,_,_,_,_,_,_,_,_,_,_,rfl,rfl,by omega,HB6.out.mono (by omega)⟩
 case round =>
  clear HB6;obtain ⟨k,m,T,ms,hs,qs,xa,xn,xc,ya,yn,yc,za,zn,zc,ea,en,ec,rfl,rfl,hmk,hrun⟩:=hrel;have HB:=Lib.hid hrun;clear hrun;have b0:=HB.out.b0;have b1:=HB.out.b1;have b2:=HB.out.b2;have s0:=HB.out.s0;have s1:=HB.out.s1;have s2:=HB.out.s2;have s3:=HB.out.s3;have s4:=HB.out.s4;have s5:=HB.out.s5;obtain ⟨lx,fx,gx,gxf,gxL,hxl⟩:=HB.out.tv.wt.t.jobsF HB.out.th HB.out.tv.wt.1 HB.out.tv.wt.2.1;obtain ⟨ly,fy,gy,gyf,gyL,hyl⟩:=HB.out.tv.dn.t.jobsF HB.out.th HB.out.tv.dn.1 HB.out.tv.dn.2.1;have HGX:=Lib.hid gx;have HGY:=Lib.hid gy;have HGXL:=Lib.hid gxL;have HGYL:=Lib.hid gyL;have HGXF:=Lib.hid gxf;have HGYF:=Lib.hid gyf;have HXL:Hid (lx.length<=1000):=Lib.hid (by have:=HB.out.tv.nx;omega);have HYL:Hid (ly.length<=1000):=Lib.hid (by have:=HB.out.tv.ny;omega);clear gx gy gxL gyL gxf gyf hxl hyl;by_cases hk0:0<k
  ·have hk0i:0<(k:Int):=by omega
   go_wp2_with fail
   have nfa:rb∉fa:=fun hm=>by have:=HC.out.lw rb (by simp [hm]);have:=HC.out.lt;have:=HC.out.l1;omega
   refine (l20TlmEvent_b rb fq (N+210000+50*(m:Int)) (by omega) _ _ _ _ _ _ _ _ _ qs lx ly fa fx fy HB.out.tv.la HXL.out HYL.out _ HB.out.rd HB.out.rd.old ⟨⟨_,_,_,rfl⟩,⟨_,_,_,rfl⟩,⟨_,_,_,rfl⟩,⟨_,_,_,rfl⟩,⟨_,_,_,rfl⟩,⟨_,_,_,rfl⟩⟩ HB.out.tv.ask HGX.out HGY.out nfa (fun hm=>HGXL.out rb hm HC.out.hrb) (fun hm=>HGYL.out rb hm HC.out.hrb)).mono ?_;rintro e w7 ⟨kd,wo,nn,rfl,h1,h2⟩;have HB7:=Lib.hid (HB.out.draw HC.out h2 h1);have hTq:T w7.heap.size=none:=HB7.out.th.fresh (Nat.le_refl _);have hQL:w7.heap.size∉L:=fun hm=>by have:=HB7.out.th.old _ hm;omega
   obtain ⟨w8,hw8⟩:∃ z,z=w7.alloc (.cells #[.int .i64 kd,.int .i64 wo,.int .i64 nn] 47):=⟨_,rfl⟩;have b8:Below w7.heap.size w7 w8:=by rw [hw8];exact below_alloc _ _
   have e0:w8.cell? ⟨w7.heap.size,0,none⟩=some (.int .i64 kd):=by rw [hw8];exact alloc1_new _ _ _ 0 rfl
   have e1:w8.cell? ⟨w7.heap.size,1,none⟩=some (.int .i64 wo):=by rw [hw8];exact alloc1_new _ _ _ 1 rfl
   have e2:w8.cell? ⟨w7.heap.size,2,none⟩=some (.int .i64 nn):=by rw [hw8];exact alloc1_new _ _ _ 2 rfl
   have HB8:=Lib.hid (HB7.out.below HC.out b8);have HQL:=Lib.hid hQL;have HTQ:=Lib.hid hTq;clear h1 h2 hTq hQL HB b8 b0 b1 b2 s0 s1 s2 s3 s4 s5 nfa HGX HGY HGXL HGYL HGXF HGYF HXL HYL;go_upto_region 8 with fail
   rw [<- hw8];clear hw8;obtain ⟨qe,hqe⟩:∃ z,z=w7.heap.size:=⟨_,rfl⟩;rw [<- hqe] at e0 e1 e2 HQL HTQ;rw [<- hqe];clear hqe HB7;have b0:=HB8.out.b0;have b1:=HB8.out.b1;have b2:=HB8.out.b2;have s0:=HB8.out.s0;have s1:=HB8.out.s1;have s2:=HB8.out.s2;have s3:=HB8.out.s3;have s4:=HB8.out.s4;have s5:=HB8.out.s5;go_wp2_with fail
   refine (l5Step_b L T lm _ _ _ _ _ fm fw fh fa pa pc m kd wo nn (by omega) _ ms hs qs xa xn xc ya yn yc za zn zc HC.out.c HB8.out.th HB8.out.bv HB8.out.tv).mono ?_;rintro e w9 ⟨T',ms',hs',qs',xa',xn',xc',ya',yn',yc',za',zn',zc',ok,rfl,t9,st9,bv9,tv9,hok⟩;have HB9:=Lib.hid (HB8.out.stepped (ok:=ok) (wo:=wo) HC.out t9 st9 tv9);have nqe:qe∉fw++fh++fa:=fun hm=>HQL.out (HC.out.c.inL qe hm);have hqlt:qe<w8.heap.size:=block_of_cell e0;have hen:en<=m:=HB8.out.ne;have e0:=st9.cell e0 nqe HTQ.out;have e1:=st9.cell e1 nqe HTQ.out;have e2:=st9.cell e2 nqe HTQ.out;have hTq':T' qe=none:=st9.fresh qe HTQ.out hqlt;have HTQ':=Lib.hid hTq';have HWT:=Lib.hid tv9.wt;have HDN:=Lib.hid tv9.dn;have HTD:=Lib.hid tv9.td;have HNX:=Lib.hid tv9.nx;have HNY:=Lib.hid tv9.ny;have HNZ:=Lib.hid tv9.nz;have HOK:=Lib.hid hok;clear t9 st9 bv9 tv9 hok HB8 HTQ nqe hTq' hqlt b0 b1 b2 s0 s1 s2 s3 s4 s5;obtain ⟨wx,hwx⟩:∃ z,z=w9.alloc (.cells #[.slice aw nw cw,.slice ah nh ch,.slice aa an ac,.slice xa' xn' xc',.slice ya' yn' yc',.slice za' zn' zc'] 70):=⟨_,rfl⟩;have bx_:Below w9.heap.size w9 wx:=by rw [hwx];exact below_alloc _ _
   have xs:∀ j (hj:j<6),wx.cell? ⟨w9.heap.size,j,none⟩=some ((#[.slice aw nw cw,.slice ah nh ch,.slice aa an ac,.slice xa' xn' xc',.slice ya' yn' yc',.slice za' zn' zc']:Array Value)[j]'hj):=fun j hj=>by rw [hwx];exact alloc1_new _ _ _ j (by simp [show j<6 from hj])
   have HBx:=Lib.hid (HB9.out.below HC.out bx_);have hTx:T' w9.heap.size=none:=HB9.out.th.fresh (Nat.le_refl _);have hXL:w9.heap.size∉L:=fun hm=>by have:=HB9.out.th.old _ hm;omega
   replace e0:=keep_cell bx_ e0;replace e1:=keep_cell bx_ e1;replace e2:=keep_cell bx_ e2;have XS:=Lib.hid xs;have HTX:=Lib.hid hTx;have HXL2:=Lib.hid hXL;clear bx_ xs hTx hXL HB9;go_upto_region 9 with fail
   rw [<- hwx];clear hwx;obtain ⟨qx,hqx⟩:∃ z,z=w9.heap.size:=⟨_,rfl⟩;rw [<- hqx] at XS HTX HXL2;rw [<- hqx];clear hqx;cases ok
   ·go_wp2
    go_roundw
    case rel=>exact ⟨k - 1,m+1,_,_,_,_,_,_,_,_,_,_,_,_,_,_,_,_,by go_num,rfl,by omega,HBx.out.mono (by omega)⟩
    case measure=>simp [intOf];omega
   ·have HWO:=Lib.hid (HOK.out rfl);have ba:=below_alloc wx (.cells #[.int .i64 kd,.int .i64 wo,.int .i64 nn] 47);have HBa:=Lib.hid (HBx.out.below HC.out ba);have hcell:∀ (j_:Nat) (hj_:j_<([.int .i64 kd,.int .i64 wo,.int .i64 nn]:List Value).length),(wx.alloc (.cells #[.int .i64 kd,.int .i64 wo,.int .i64 nn] 47)).cell? ((⟨wx.heap.size,0,none⟩:Addr).add j_)=some ([.int .i64 kd,.int .i64 wo,.int .i64 nn]:List Value)[j_]:=alloc1_news5 wx _ _;have hne:en<=2000000:=by have:=HBx.out.ne;omega
    have XSa:Hid (∀ j (hj:j<6),(wx.alloc (.cells #[.int .i64 kd,.int .i64 wo,.int .i64 nn] 47)).cell? ⟨qx,j,none⟩=some ((#[.slice aw nw cw,.slice ah nh ch,.slice aa an ac,.slice xa' xn' xc',.slice ya' yn' yc',.slice za' zn' zc']:Array Value)[j]'hj)):=Lib.hid (fun j hj=>keep_cell ba (XS.out j hj));clear ba XS HBx;go_upto_region 11 with (at_builtin;refine wpList_appendT (k:=5) (cs:=[.int .i64 kd,.int .i64 wo,.int .i64 nn]) rfl _ _ 51 47 i0 (.agg #[.int .i64 0,.int .i64 0,.int .i64 0]) 24 rfl Try.underlying51 ki kz0 kz1 kz2 rfl (by decide) rfl rfl HBa.out.th HBa.out.ev rfl ⟨kd,wo,nn,rfl,HWO.out.1,HWO.out.2⟩ hcell (by simp [Value.oneCell']) hne ?_;intro ao' cap' T2 w10 t2 st2 a2;have HBb:=Lib.hid (HBa.out.push HC.out t2 st2 a2 (show en+1<=m+1 by omega));have XSb:Hid (∀ j (hj:j<6),w10.cell? ⟨qx,j,none⟩=some ((#[.slice aw nw cw,.slice ah nh ch,.slice aa an ac,.slice xa' xn' xc',.slice ya' yn' yc',.slice za' zn' zc']:Array Value)[j]'hj)):=Lib.hid (fun j hj=>st2.cell (XSa.out j hj) (by simp) HTX.out);have HX2:=Lib.hid st2.ext;clear t2 st2 a2 hcell HBa)
    have x0:=XSb.out 0 (by decide);have x1:=XSb.out 1 (by decide);have x2:=XSb.out 2 (by decide);have x3:=XSb.out 3 (by decide);have x4:=XSb.out 4 (by decide);have x5:=XSb.out 5 (by decide);simp only [List.getElem_toArray,List.getElem_cons_zero,List.getElem_cons_succ] at x0 x1 x2 x3 x4 x5;have s0:=HBb.out.s0;have s1:=HBb.out.s1;have s2:=HBb.out.s2;have s3:=HBb.out.s3;have s4:=HBb.out.s4;have s5:=HBb.out.s5;have f0:=HBb.out.fs 0;have f1:=HBb.out.fs 1;have f2:=HBb.out.fs 2;have f3:=HBb.out.fs 3;have f4:=HBb.out.fs 4;have f5:=HBb.out.fs 5;clear XSb XSa e0 e1 e2;go_wp2
    go_roundw
    case rel =>
     obtain ⟨hF,hZ,hc⟩:=six (.slice aw nw cw) (.slice ah nh ch) (.slice aa an ac) (.slice xa' xn' xc') (.slice ya' yn' yc') (.slice za' zn' zc') s0 s1 s2 s3 s4 s5 rfl;exact ⟨k - 1,m+1,_,_,_,_,_,_,_,_,_,_,_,_,_,_,_,_,by go_num,rfl,by omega,(HBb.out.box HC.out hc (hF 0 (by simp)) (hF 1 (by simp)) (hF 2 (by simp)) (hF 3 (by simp)) (hF 4 (by simp)) (hF 5 (by simp)) (HWT.out.ext HX2.out) (HDN.out.ext HX2.out) (HTD.out.ext HX2.out) HNX.out HNY.out HNZ.out (fun o=>(hZ sb o).trans (HBb.out.fs o))).mono (by omega)⟩
    case measure=>simp [intOf];omega
  ·have hk00:k=0:=by omega
   subst hk00;obtain ⟨lz,fz,gz,gzf,gzL,hzl⟩:=HB.out.tv.td.t.jobsF HB.out.th HB.out.tv.td.1 HB.out.tv.td.2.1;have HGZ:=Lib.hid gz;have HGZL:=Lib.hid gzL;have HGZF:=Lib.hid gzf;have HZL:Hid (lz.length<=1000):=Lib.hid (by have:=HB.out.tv.nz;omega);have Q0:=HB.out.q0;have Q1:=HB.out.q1;have l1:=HC.out.l1;have l2:=HC.out.l2;have nb:cb∉[rc,rc+1]:=by simp;omega
   have ns:sb∉[rc,rc+1]:=by simp;omega
   have hrcL:∀ c,c∈[rc,rc+1]->c∈L:=fun c hc=>by
    simp at hc;rcases hc with rfl|rfl
    ·exact HC.out.hrc
    ·exact HC.out.hrs
   have hrB:∀ c,c∈[rc,rc+1]->c<wr.heap.size:=fun c hc=>HB.out.th.old c (hrcL c hc);have HRL:=Lib.hid hrcL;have HRBd:=Lib.hid hrB;clear gz gzf gzL hzl hrcL hrB;go_upto_region 12 with fail
   have hst:∀ F,F∈[FEq (.agg #[.slice va_ vn vc,.slice la 4 lc,.slice pa 3 pc]),FEq (.agg #[.slice aw nw cw,.slice ah nh ch,.slice aa an ac,.slice xa xn xc,.slice ya yn yc,.slice za zn zc]),FCopy wr.heap.size ms hs qs lx ly lz,FEq (.slice ea en ec),FCs rc [.slice va_ vn vc,.slice la 4 lc,.slice pa 3 pc],FLaid (rc+1) wr.heap.size ms hs qs lx ly lz]->Stable [] F:=by
    simp only [List.forall_mem_cons];exact ⟨stEq _ _,stEq _ _,stCopy _ _ _ _ _ _ _,stEq _ _,stCs _ _,stLaid _ _ _ _ _ _ _ _,fun _ h=>by simp at h⟩
   refine wp_region_tail (by kernel_rfl) (fun i=>(tbl20Tlm12:List (List Nat)).getD i []) (facts [FEq (.agg #[.slice va_ vn vc,.slice la 4 lc,.slice pa 3 pc]),FEq (.agg #[.slice aw nw cw,.slice ah nh ch,.slice aa an ac,.slice xa xn xc,.slice ya yn yc,.slice za zn zc]),FCopy wr.heap.size ms hs qs lx ly lz,FEq (.slice ea en ec),FCs rc [.slice va_ vn vc,.slice la 4 lc,.slice pa 3 pc],FLaid (rc+1) wr.heap.size ms hs qs lx ly lz]) (fun m w'=>Chg [rc,rc+1] wr w'∧(RoomAt rc 3 w'∧RoomAt (rc+1) 6 w')) 46 7 6 [some 42,some 43,some 44,some 45,none,none] _ rfl rfl (by decide) rfl rfl (by kernel_rfl) (by kernel_rfl) [] (by kernel_rfl) (fun g b hm v w h=>by simp at hm) ?h0 (all_lt (n:=6) ?hop) ?hend
   case h0=>exact ⟨(Chg.refl _ _).drewN 1,⟨Q0,Q1⟩⟩
   case hop =>
    refine ⟨⟨⟨⟨⟨⟨trivial,?_⟩,?_⟩,?_⟩,?_⟩,?_⟩,?_⟩
    ·refine Owes.q 46 (fun u=>[(7,.pointer (some ⟨cb,0,none⟩))]) fun u w' hI hR=>?_;dsimp only [frm,List.foldl,List.replicate,List.set];obtain ⟨_,hI⟩:=hI;have k0:=keep_cell_chg hI.1 b0 nb;have k1:=keep_cell_chg hI.1 b1 nb;have k2:=keep_cell_chg hI.1 b2 nb;clear hI hst hR;go_wp2;exact ⟨rfl,_,rfl,rfl,rfl⟩
    ·refine Owes.q 46 (fun u=>[(8,.pointer (some ⟨sb,0,none⟩))]) fun u w' hI hR=>?_;dsimp only [frm,List.foldl,List.replicate,List.set];obtain ⟨_,hI⟩:=hI;have k3:=keep_cell_chg hI.1 s0 ns;have k4:=keep_cell_chg hI.1 s1 ns;have k5:=keep_cell_chg hI.1 s2 ns;have k6:=keep_cell_chg hI.1 s3 ns;have k7:=keep_cell_chg hI.1 s4 ns;have k8:=keep_cell_chg hI.1 s5 ns;clear hI hst hR;go_wp2;exact ⟨rfl,_,rfl,rfl,rfl⟩
    ·refine Owes.mk _ rfl rfl (fun _ _ h=>by cases h) fun u m w' hm hI hR=>⟨⟨(frm 46 [(43,u 1)]).toArray,[]⟩,rfl,fun d hd=>by cases hd;exact frm_lt (by decide),?_⟩;dsimp only [frm,List.foldl,List.replicate,List.set];have e1:u 1=_:=hR 1 (by decide);rw [e1];clear e1;obtain ⟨hc,hr0,hr1⟩:=hI;have g0:=HB.out.tv.mem.chg intR_fits hc (fun c hm e=>HLD.out c e (by simp [hm]));have g1:=HB.out.tv.hol.chg intR_fits hc (fun c hm e=>HLD.out c e (by simp [hm]));have g2:=HB.out.tv.ask.chg intR_fits hc (fun c hm e=>HLD.out c e (by simp [hm]));have g3:=HGX.out.chg jobR_fits hc (fun c hm e=>HGXL.out c hm (HRL.out c e));have g4:=HGY.out.chg jobR_fits hc (fun c hm e=>HGYL.out c hm (HRL.out c e));have g5:=HGZ.out.chg jobR_fits hc (fun c hm e=>HGZL.out c hm (HRL.out c e));have K0:=Lib.hid g0;have K1:=Lib.hid g1;have K2:=Lib.hid g2;have K3:=Lib.hid g3;have K4:=Lib.hid g4;have K5:=Lib.hid g5;have HCh:=Lib.hid hc;have HR0:=Lib.hid hr0;have HR1:=Lib.hid hr1;clear hc hr0 hr1 g0 g1 g2 g3 g4 g5 hR;go_wp2_with fail
     refine (l5Copy_o ms hs qs lx ly lz _ _ _ _ _ _ fw fh fa fx fy fz (by have:=HB.out.tv.lm;omega) (by have:=HB.out.tv.lh;omega) (by have:=HB.out.tv.lh;omega) (by have:=HB.out.tv.la;omega) (by have:=HB.out.tv.la;omega) HXL.out HYL.out HZL.out (fun j_ hj_=>(HGXF.out j_ hj_).2.2.2.2) (fun j_ hj_=>(HGYF.out j_ hj_).2.2.2.2) (fun j_ hj_=>(HGZF.out j_ hj_).2.2.2.2) _ K0.out K1.out K2.out K3.out K4.out K5.out).mono ?_;rintro e w7 ⟨v0,v1,v2,v3,v4,v5,rfl,p0,p1,p2,p3,p4,p5,p6,b7⟩;have lo:∀ {α:Type} {k:Nat} {R:Pr α} {l:List α} {v:Value},FNw w'.heap.size k R l v w7->FNw wr.heap.size k R l v w7:=fun h=>h.imp fun f h=>⟨h.1,fun b hb=>Nat.le_trans HCh.out.size (h.2 b hb)⟩;have HX:Hid (FCopy wr.heap.size ms hs qs lx ly lz (.agg #[v0,v1,v2,v3,v4,v5]) w7):=Lib.hid ⟨_,_,_,_,_,_,rfl,lo p0,lo p1,lo p2,lo p3,lo p4,lo p5,p6.lower HCh.out.size⟩;have HS7:=Lib.hid (facts_stable hst (b7.chg []));have HC7:=Lib.hid (HCh.out.trans' (b7.chg _));have HR07:=Lib.hid (HR0.out.below b7);have HR17:=Lib.hid (HR1.out.below b7);clear b7 hst p0 p1 p2 p3 p4 p5 p6 lo;go_wp2;exact ⟨rfl,_,rfl,HX.out,⟨HC7.out,HR07.out,HR17.out⟩,HS7.out⟩
    ·refine Owes.q 46 (fun u=>[(9,.slice ea en ec)]) fun u w' hI hR=>?_;dsimp only [frm,List.foldl,List.replicate,List.set];clear hI hst hR;go_wp2;exact ⟨rfl,_,rfl,rfl,rfl⟩
    ·refine Owes.mk _ rfl rfl (fun _ _ h=>by cases h) fun u m w' hm hI hR=>⟨⟨(frm 46 [(4,.pointer (some ⟨rc,0,none⟩)),(42,u 0)]).toArray,[]⟩,rfl,fun d hd=>(by cases hd),?_⟩;dsimp only [frm,List.foldl,List.replicate,List.set];have e0:u 0=_:=hR 0 (by decide);rw [e0];clear e0;obtain ⟨hc,hr0,hr1⟩:=hI;obtain ⟨y0,p0⟩:=hr0.2.1 0 (by omega);obtain ⟨y1,p1⟩:=hr0.2.1 1 (by omega);obtain ⟨y2,p2⟩:=hr0.2.1 2 (by omega);have f0:=hr0.2.2 0;have f1:=hr0.2.2 1;have f2:=hr0.2.2 2;have HCh:=Lib.hid hc;have HR0:=Lib.hid hr0;have HR1:=Lib.hid hr1;clear hc hr0 hr1 hR hst;go_wp2;have c3:=chg3 rc w' (.slice va_ vn vc) (.slice la 4 lc) (.slice pa 3 pc);exact ⟨rfl,undef,rfl,FCs.three (v:=undef) p0 p1 p2,⟨HCh.out.trans' (c3.mono (by simp)),((HR0.out.set (by omega)).set (by omega)).set (by omega),HR1.out.chg c3 (by simp)⟩,fun j_ x_ h=>by match j_,h with|0,h=>exact h|1,h=>exact h|2,h=>exact FCopy.chg h c3 (by simp;exact HRBd.out rc (by simp))|3,h=>exact h|4,_=>exact FCs.three (v:=undef) p0 p1 p2|5,h=>exact FLaid.chg (v:=x_) h c3 (by simp) (by simp;exact HRBd.out rc (by simp))|(j_+6),_=>trivial⟩
    ·refine Owes.mk _ rfl rfl (fun _ _ h=>by cases h) fun u m w' hm hI hR=>⟨⟨(frm 46 [(5,.pointer (some ⟨rc+1,0,none⟩)),(44,u 2)]).toArray,[]⟩,rfl,fun d hd=>(by cases hd),?_⟩;dsimp only [frm,List.foldl,List.replicate,List.set];have k0:=keep_cell_chg hI.1 b0 nb;have k1:=keep_cell_chg hI.1 b1 nb;have k2:=keep_cell_chg hI.1 b2 nb;have k3:=keep_cell_chg hI.1 s0 ns;have k4:=keep_cell_chg hI.1 s1 ns;have k5:=keep_cell_chg hI.1 s2 ns;have k6:=keep_cell_chg hI.1 s3 ns;obtain ⟨hc,hr0,hr1⟩:=hI;obtain ⟨v0,v1,v2,v3,v4,v5,e2,k0,k1,k2,k3,k4,k5,k6⟩:=hR 2 (by decide);obtain ⟨_,_,_,rfl⟩:=k0.form;obtain ⟨_,_,_,rfl⟩:=k1.form;obtain ⟨_,_,_,rfl⟩:=k2.form;obtain ⟨_,_,_,rfl⟩:=k3.form;obtain ⟨_,_,_,rfl⟩:=k4.form;obtain ⟨_,_,_,rfl⟩:=k5.form;rw [e2];have HCO:Hid (FCopy wr.heap.size ms hs qs lx ly lz (.agg #[_,_,_,_,_,_]) w'):=Lib.hid ⟨_,_,_,_,_,_,rfl,k0,k1,k2,k3,k4,k5,k6⟩;obtain ⟨y0,p0⟩:=hr1.2.1 0 (by omega);obtain ⟨y1,p1⟩:=hr1.2.1 1 (by omega);obtain ⟨y2,p2⟩:=hr1.2.1 2 (by omega);obtain ⟨y3,p3⟩:=hr1.2.1 3 (by omega);obtain ⟨y4,p4⟩:=hr1.2.1 4 (by omega);obtain ⟨y5,p5⟩:=hr1.2.1 5 (by omega);have f0:=hr1.2.2 0;have f1:=hr1.2.2 1;have f2:=hr1.2.2 2;have f3:=hr1.2.2 3;have f4:=hr1.2.2 4;have f5:=hr1.2.2 5;have HCh:=Lib.hid hc;have HR0:=Lib.hid hr0;have HR1:=Lib.hid hr1;clear hc hr0 hr1 hR hst e2 k0 k1 k2 k3 k4 k5 k6;go_wp2;obtain ⟨hF,hZ,c6⟩:=six _ _ _ _ _ _ p0 p1 p2 p3 p4 p5 rfl;have hL5:=FLaid.mk' (v:=undef) hF (HCO.out.chg c6 (by simp;exact HRBd.out (rc+1) (by simp)));exact ⟨rfl,undef,rfl,hL5,⟨HCh.out.trans' (c6.mono (by simp)),HR0.out.chg c6 (by simp),(((((HR1.out.set (by omega)).set (by omega)).set (by omega)).set (by omega)).set (by omega)).set (by omega)⟩,fun j_ x_ h=>by match j_,h with|0,h=>exact h|1,h=>exact h|2,h=>exact FCopy.chg h c6 (by simp;exact HRBd.out (rc+1) (by simp))|3,h=>exact h|4,h=>exact fun q_ hq_=>keep_cell_chg c6 (h q_ hq_) (by simp)|5,_=>exact hL5|(j_+6),_=>trivial⟩
   case hend =>
    intro u w' hI hR;simp only [setAll,List.set_cons_zero,List.set_cons_succ];have e3:u 3=_:=hR 3 (by decide);have h4:=(hR 4 (by decide):FCs _ _ _ _);obtain ⟨v0,v1,v2,v3,v4,v5,h5,v0',v1',v2',v3',v4',v5',ee,k0,k1,k2,k3,k4,k5,k6⟩:=(hR 5 (by decide):FLaid _ _ _ _ _ _ _ _ _ _);simp only [Value.agg.injEq,Array.mk.injEq,List.cons.injEq,and_true] at ee;obtain ⟨rfl,rfl,rfl,rfl,rfl,rfl⟩:=ee;rw [e3];have r0:=h4 0 (by simp);have r1:=h4 1 (by simp);have r2:=h4 2 (by simp);have t0:=h5 0 (by simp);have t1:=h5 1 (by simp);have t2:=h5 2 (by simp);have t3:=h5 3 (by simp);have t4:=h5 4 (by simp);have t5:=h5 5 (by simp);simp only [List.getElem_cons_zero,List.getElem_cons_succ] at r0 r1 r2 t0 t1 t2 t3 t4 t5;have hc:=hI.1;have bv:=HB.out.bv.step (Step.of_chg (T:=T) hc) HRL.out;have hlo:w.heap.size<=wr.heap.size:=HB.out.st.size;obtain ⟨wq,hq,hcq,hbq⟩:=cut_at hc;have bq:=HB.out.bv.step (Step.of_chg (T:=T) hcq) HRL.out;have lo:∀ {α:Type} {k:Nat} {R:Pr α} {l:List α} {v:Value},FNw wr.heap.size k R l v w'->FNw w.heap.size k R l v w':=fun h=>h.imp fun f h=>⟨h.1,fun b hb=>Nat.le_trans hlo (h.2 b hb)⟩;have hfin:RunPost L0 rb fq T0 w (N+300000) (.returned (.tuple #[.agg #[.slice va_ vn vc,.slice la 4 lc,.slice pa 3 pc],.agg #[v0,v1,v2,v3,v4,v5],.slice ea en ec])) w' :=
     ⟨T,lm,fm,va_,vn,vc,la,lc,pa,pc,ms,hs,qs,lx,ly,lz,v0,v1,v2,v3,v4,v5,ea,en,ec,rfl,(HB.out.th.chg hc HRL.out).closed HLL.out,HB.out.st.later hc (fun c hm=>by have:=HC.out.lo;simp at hm;omega),(HB.out.rd.chg hc (by have:=HC.out.lt;simp;omega) (fun c hm e=>by have:=HC.out.lq c hm;simp at e;omega)).mono (by omega),⟨bv.mp,bv.fz.closed HLL.out,bv.prg,bv.vl⟩,HB.out.lat,HML.out,HB.out.ev,by have:=HB.out.ne;omega,
      ⟨HB.out.tv.lm,HB.out.tv.lh,HB.out.tv.la,HXL.out,HYL.out,HZL.out⟩,⟨HGXF.out,HGYF.out,HGZF.out⟩,lo k0,lo k1,lo k2,lo k3,lo k4,lo k5,wq,(HB.out.th.chg hcq HRL.out).closed HLL.out,⟨bq.mp,bq.fz.closed HLL.out,bq.prg,bq.vl⟩,hbq,by omega,by rw [hq];exact k6⟩
    have HF:=Lib.hid hfin;clear hR hI hst e3 h4 h5 hc bv hlo lo hfin hq hcq hbq bq k0 k1 k2 k3 k4 k5 k6 b0 b1 b2 s0 s1 s2 s3 s4 s5 Q0 Q1;go_wp2;exact bodyPost_ret (by simp [results,Try.results71,go_sem,r0,r1,r2,t0,t1,t2,t3,t4,t5]) rfl HF.out
end Go.Proofs.Ytmcjklicepaiaaa
