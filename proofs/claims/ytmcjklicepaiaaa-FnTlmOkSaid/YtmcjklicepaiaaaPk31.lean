/-
 Texts of this claim laid together: OrdC OwnQ Pile.
-/
import Derived.Test.YtmcjklicepaiaaaPk30
set_option linter.unusedVariables false
set_option linter.unusedSimpArgs false
namespace Go.Proofs.Ytmcjklicepaiaaa
open Go.RowKit Go.ChangeShapes Go.WideShapes
def AtmN (w0:World) (ms hs:List Int) (v:Value) (f:List Nat) (w:World):Prop:=∃ (a a':Option Addr) (n c n' c':Nat) (f0 f1:List Nat),v = .agg #[.slice a n c,.slice a' n' c']∧f=f0++f1∧SlR 1 intR w ms (.slice a n c) f0∧SlR 1 intR w hs (.slice a' n' c') f1∧New (f0++f1) w0 w
theorem AtmN.chg {w0 w w':World} {ms hs:List Int} {v:Value} {f fq:List Nat} (h:AtmN w0 ms hs v f w) (hc:Chg fq w w') (hn:∀ b,b∈f->b∉fq):AtmN w0 ms hs v f w':=by
 obtain ⟨a,a',n,c,n',c',f0,f1,rfl,rfl,g0,g1,nw⟩:=h;refine ⟨a,a',n,c,n',c',f0,f1,rfl,rfl,g0.chg intR_fits hc (fun b hb=>hn b (by simp [hb])),g1.chg intR_fits hc (fun b hb=>hn b (by simp [hb])),nw.lo,nw.once,nw.free.chg (fun b hb=>?_) hc hn⟩;exact (List.mem_append.1 hb).elim (g0.lt intR_fits b) (g1.lt intR_fits b)
theorem AtmN.below {w0 w w':World} {ms hs:List Int} {v:Value} {f:List Nat} (h:AtmN w0 ms hs v f w) (hb:Below w.heap.size w w'):AtmN w0 ms hs v f w':=h.chg (hb.chg []) (fun _ _=>by simp)
structure CpI (w0:World) (ms hs:List Int) (c2 c3 c6 c7:Bool) (v2 v3 v6 v7:Value) (w:World):Prop where
 bel:Below w0.heap.size w0 w
 m:c2=true->∃ a n c f,v2 = .agg #[.slice a n c]∧SlR 1 intR w ms (.slice a n c) f∧New f w0 w
 l:c3=true->∃ q,v3 = .slice (some ⟨q,0,none⟩) 0 0
 p:c6=true->∃ a n c a' n' c' f,v2 = .agg #[.slice a n c]∧v6 = .slice a' n' c'∧AtmN w0 ms hs (.agg #[.slice a n c,.slice a' n' c']) f w∧(c7=true->v7 = .agg #[.slice a n c,.slice a' n' c'])
theorem CpI.below {w0 w w':World} {ms hs:List Int} {c2 c3 c6 c7:Bool} {v2 v3 v6 v7:Value} (h:CpI w0 ms hs c2 c3 c6 c7 v2 v3 v6 v7 w) (hb:Below w.heap.size w w'):CpI w0 ms hs c2 c3 c6 c7 v2 v3 v6 v7 w' :=
 ⟨h.bel.trans (hb.mono h.bel.size),fun e=>by
  obtain ⟨a,n,c,f,e1,g,nw⟩:=h.m e;exact ⟨a,n,c,f,e1,SlR.below intR_fits g hb,nw.later (g.lt intR_fits) (hb.chg [])⟩,h.l,fun e=>by
  obtain ⟨a,n,c,a',n',c',f,e1,e2,g,e3⟩:=h.p e;exact ⟨a,n,c,a',n',c',f,e1,e2,g.below hb,e3⟩⟩
theorem CpI.start {w0:World} {ms hs:List Int} {c2 c3 c6 c7:Bool} {v2 v3 v6 v7:Value} (h2:c2=false) (h3:c3=false) (h6:c6=false):CpI w0 ms hs c2 c3 c6 c7 v2 v3 v6 v7 w0.drew :=
 ⟨(Below.refl _ _).drew,fun e=>by simp [h2] at e,fun e=>by simp [h3] at e,fun e=>by simp [h6] at e⟩
theorem AtmN.of {w0 w1 w2:World} {ms hs:List Int} {a:Option Addr} {n c:Nat} {f:List Nat} {v:Value} (b1:Below w0.heap.size w0 w1) (g:SlR 1 intR w1 ms (.slice a n c) f) (nw:New f w0 w1) (b2:Below w1.heap.size w1 w2) (o:OwnR 1 IntC 3 w1.heap.size w2 v hs) :
 ∃ a' n' c' f,v = .slice a' n' c'∧AtmN w0 ms hs (.agg #[.slice a n c,.slice a' n' c']) f w2:=by
 obtain ⟨fq,g1,g2,g3,g4⟩:=intRow_reads o;obtain ⟨a',n',c',rfl⟩:=g1.form;refine ⟨a',n',c',f++fq,rfl,a,a',n,c,n',c',f,fq,rfl,rfl,SlR.below intR_fits g b2,g1,fun b hb=>(List.mem_append.1 hb).elim (nw.lo b) (fun hb=>Nat.le_trans b1.size (g2 b hb)),nodup_app nw.once g3 (fun b hb hb'=>by have:=g.lt intR_fits b hb;have:=g2 b hb';omega),?_⟩;exact (nw.later (g.lt intR_fits) (b2.chg [])).free.app g4
set_option maxRecDepth 100000 in
set_option maxHeartbeats 3200000 in
theorem l4Copy_n (ms hs:List Int) (v0 v1:Value) (f0 f1:List Nat) (h0:ms.length<=1000) (h1:0<hs.length) (h1':hs.length<=1000) (w:World) (g0:SlR 1 intR w ms v0 f0) (g1:SlR 1 intR w hs v1 f1) :
 Calls Try.prog 134 #[.agg #[v0,v1]] w fun e w'=>∃ v f,e = .returned v∧AtmN w ms hs v f w'∧Below w.heap.size w w':=by
 obtain ⟨a0,n0,c0,rfl⟩:=g0.form;obtain ⟨a1,n1,c1,rfl⟩:=g1.form;obtain ⟨i0,hi,hz0,hz1,hz2⟩:=info_parts infoInt;have hn1:hs.length=n1:=by
  have h':=g1;obtain ⟨_,_,_,e,h2,_⟩:=h';cases e;exact h2
 obtain ⟨w0,hw0⟩:∃ z,z=(w.alloc (.cells #[.slice a0 n0 c0,.slice a1 n1 c1] 68)).alloc (.cells #[.slice none 0 0,.slice none 0 0] 68):=⟨_,rfl⟩;have b0:Below w.heap.size w w0:=by rw [hw0];exact (below_alloc _ _).trans ((below_alloc _ _).mono (by simp))
 have X0:w0.cell? ⟨w.heap.size,0,none⟩=some (.slice a0 n0 c0):=by rw [hw0];exact alloc2_old _ _ _ _ _ 0 rfl
 have X1:w0.cell? ⟨w.heap.size,1,none⟩=some (.slice a1 n1 c1):=by rw [hw0];exact alloc2_old _ _ _ _ _ 1 rfl
 have r0:RoomAt (w.heap.size+1) 2 w0:=by rw [hw0];exact room_alloc (by simp) (by simp)
 have G0:=Lib.hid (SlR.below intR_fits g0 b0);have G1:=Lib.hid (SlR.below intR_fits g1 b0);have B:=Lib.hid b0;have R:=Lib.hid r0;have HM:=Lib.hid h0;clear g0 g1 b0 r0 h0;go_enter Try.func134,Try.ntmps134
 go_upto_region 1 with fail
 rw [<- hw0];clear hw0;have hk:∀ (wa wb:World) (j_:Nat) (y_:Value),facts [FEq (.pointer (some ⟨w.heap.size,0,none⟩)),FEq (.agg #[.slice a0 n0 c0]),FAny,FAny,FEq (.pointer (some ⟨w.heap.size,1,none⟩)),FEq (.slice a1 n1 c1),FAny,FAny] j_ y_ wa->facts [FEq (.pointer (some ⟨w.heap.size,0,none⟩)),FEq (.agg #[.slice a0 n0 c0]),FAny,FAny,FEq (.pointer (some ⟨w.heap.size,1,none⟩)),FEq (.slice a1 n1 c1),FAny,FAny] j_ y_ wb:=fun wa wb j_ y_ h=>by
  rcases j_ with _|_|_|_|_|_|_|_|j_<;>exact h
 refine wp_region_tail7 (by kernel_rfl) (fun i=>([[],[0],[0,1],[],[],[4],[0,1,2,3,4,5],[0,1,2,3,4,5,6],[0,1,2,3,4,5,6,7]]:List (List Nat)).getD i []) (facts [FEq (.pointer (some ⟨w.heap.size,0,none⟩)),FEq (.agg #[.slice a0 n0 c0]),FAny,FAny,FEq (.pointer (some ⟨w.heap.size,1,none⟩)),FEq (.slice a1 n1 c1),FAny,FAny]) (fun ls u n_ w'=>CpI w0 ms hs (ls 2) (ls 3) (ls 6) (ls 7) (u 2) (u 3) (u 6) (u 7) w') 11 9 8 [some 3,some 4,some 5,some 6,some 7,some 8,some 9,some 10] _ rfl rfl (by decide) rfl rfl (by kernel_rfl) (by kernel_rfl) [] (by kernel_rfl) (fun g b hm v w h=>by simp at hm) ?h0 (all_lt (n:=8) ?hop) ?hend
 case h0=>exact fun ls u hl=>CpI.start (hl 2) (hl 3) (hl 6)
 case hop =>
  refine ⟨⟨⟨⟨⟨⟨⟨⟨trivial,?_⟩,?_⟩,?_⟩,?_⟩,?_⟩,?_⟩,?_⟩,?_⟩
  ·refine Owes7.mk _ rfl rfl (fun _ _ h=>by cases h) fun u n_ w' hm ls hI hli hld hlT hR=>⟨⟨(frm 11 [(1,.pointer (some ⟨w.heap.size,0,none⟩))]).toArray,[]⟩,rfl,fun d hd=>by cases hd;exact frm_lt (by decide),?_⟩;dsimp only [frm,List.foldl,List.replicate,List.set];have HI:=Lib.hid hI;clear hI hR hld hlT;go_wp2;exact ⟨rfl,_,rfl,rfl,HI.out,fun j_ y_ _ _ hx=>hk _ _ j_ y_ hx⟩
  ·refine Owes7.mk _ rfl rfl (fun _ _ h=>by cases h) fun u n_ w' hm ls hI hli hld hlT hR=>⟨⟨(frm 11 [(3,u 0)]).toArray,[]⟩,rfl,fun d hd=>by cases hd;exact frm_lt (by decide),?_⟩;dsimp only [frm,List.foldl,List.replicate,List.set];have z_X0:=keep_cell hI.bel X0;have z_X1:=keep_cell hI.bel X1;have ev0:u 0=_:=hR 0 (by decide);rw [ev0];have HI:=Lib.hid hI;clear hI hR hld hlT ev0;go_wp2;exact ⟨rfl,_,rfl,rfl,HI.out,fun j_ y_ _ _ hx=>hk _ _ j_ y_ hx⟩
  ·refine Owes7.mk _ rfl rfl (fun _ _ h=>by cases h) fun u n_ w' hm ls hI hli hld hlT hR=>⟨⟨(frm 11 [(4,u 1)]).toArray,[]⟩,rfl,fun d hd=>by cases hd;exact frm_lt (by decide),?_⟩;dsimp only [frm,List.foldl,List.replicate,List.set];have ev1:u 1=_:=hR 1 (by decide);rw [ev1];have l6:ls 6=false:=by
    cases e:ls 6 with
    | false=>rfl
    | true=>have:=hld 6 e 2 (by decide);rw [hli] at this;cases this
   have GG:=Lib.hid (SlR.below intR_fits G0.out hI.bel);have HI:=Lib.hid hI;have L6:=Lib.hid l6;clear hI hR hli hld hlT l6;go_wp2_with fail
   refine (l2Copy_b ms _ f0 HM.out _ GG.out).mono ?_;rintro e w7 ⟨v7,f7,rfl,s7,n7,b7⟩;obtain ⟨a7,m7,c7,rfl⟩:=s7.form;have hH:=HI.out.below b7;have HH:Hid (CpI w0 ms hs true (ls 3) (ls 6) (ls 7) (.agg #[.slice a7 m7 c7]) (u 3) (u 6) (u 7) w7):=Lib.hid ⟨hH.bel,fun _=>⟨a7,m7,c7,f7,rfl,s7,fun b hb=>Nat.le_trans HI.out.bel.size (n7.lo b hb),n7.once,n7.free⟩,hH.l,fun e=>by rw [L6.out] at e;cases e⟩;clear hH b7 s7 n7;go_wp2;exact ⟨rfl,_,rfl,trivial,HH.out,fun j_ y_ _ _ hx=>hk _ _ j_ y_ hx⟩
  ·refine Owes7.mk _ rfl rfl (fun _ _ h=>by cases h) fun u n_ w' hm ls hI hli hld hlT hR=>⟨⟨(frm 11 []).toArray,[]⟩,rfl,fun d hd=>by cases hd;exact frm_lt (by decide),?_⟩;dsimp only [frm,List.foldl,List.replicate,List.set];have l6:ls 6=false:=by
    cases e:ls 6 with
    | false=>rfl
    | true=>have:=hld 6 e 3 (by decide);rw [hli] at this;cases this
   have hH:=hI.below (below_alloc w' (.cells #[] 3));have HH:Hid (CpI w0 ms hs (ls 2) true (ls 6) (ls 7) (u 2) (.slice (some ⟨w'.heap.size,0,none⟩) 0 0) (u 6) (u 7) (w'.alloc (.cells #[] 3))):=Lib.hid ⟨hH.bel,hH.m,fun _=>⟨_,rfl⟩,hH.p⟩;clear hI hR hli hld hlT hH l6;go_wp2;exact ⟨rfl,_,rfl,trivial,HH.out,fun j_ y_ _ _ hx=>hk _ _ j_ y_ hx⟩
  ·refine Owes7.mk _ rfl rfl (fun _ _ h=>by cases h) fun u n_ w' hm ls hI hli hld hlT hR=>⟨⟨(frm 11 [(1,.pointer (some ⟨w.heap.size,0,none⟩))]).toArray,[]⟩,rfl,fun d hd=>by cases hd;exact frm_lt (by decide),?_⟩;dsimp only [frm,List.foldl,List.replicate,List.set];have HI:=Lib.hid hI;clear hI hR hld hlT;go_wp2;exact ⟨rfl,_,rfl,rfl,HI.out,fun j_ y_ _ _ hx=>hk _ _ j_ y_ hx⟩
  ·refine Owes7.mk _ rfl rfl (fun _ _ h=>by cases h) fun u n_ w' hm ls hI hli hld hlT hR=>⟨⟨(frm 11 [(7,u 4)]).toArray,[]⟩,rfl,fun d hd=>by cases hd;exact frm_lt (by decide),?_⟩;dsimp only [frm,List.foldl,List.replicate,List.set];have z_X1:=keep_cell hI.bel X1;have ev4:u 4=_:=hR 4 (by decide);rw [ev4];have HI:=Lib.hid hI;clear hI hR hld hlT ev4;go_wp2;exact ⟨rfl,_,rfl,rfl,HI.out,fun j_ y_ _ _ hx=>hk _ _ j_ y_ hx⟩
  ·refine Owes7.mk _ rfl rfl (fun _ _ h=>by cases h) fun u n_ w' hm ls hI hli hld hlT hR=>⟨⟨(frm 11 [(6,u 3),(8,u 5)]).toArray,[]⟩,rfl,fun d hd=>by cases hd;exact frm_lt (by decide),?_⟩;dsimp only [frm,List.foldl,List.replicate,List.set];have ev5:u 5=_:=hR 5 (by decide);rw [ev5];obtain ⟨q,e3⟩:=hI.l (hlT 3 (by decide));obtain ⟨a7,m7,c7,f7,e2,s7,n7⟩:=hI.m (hlT 2 (by decide));rw [e3];have gg:SlR 1 (flatR IntC) w' hs (.slice a1 n1 c1) _:=SlR.below intR_fits G1.out hI.bel;obtain ⟨B1,O1,rfl⟩:∃ b o,a1=some ⟨b,o,none⟩:=by
    obtain ⟨_,_,_,e,hn,_,_,⟨rfl,rfl⟩|⟨_,_,_,rfl,_⟩⟩:=gg
    ·simp at h1
    ·cases e;exact ⟨_,_,rfl⟩
   have l7:ls 7=false:=by
    cases e:ls 7 with
    | false=>rfl
    | true=>have:=hld 7 e 6 (by decide);rw [hli] at this;cases this
   refine wpList_append_empty (K:=1) (c:=IntC) (news:=hs) rfl _ _ 24 3 i0 (.int .i64 0) 8 IntC_len rfl Try.underlying24 hi hz0 hz1 hz2 rfl (by decide) rfl rfl hn1 (by omega) (SlR.flat_cells IntC_len (by decide) gg) (by omega) ?_;intro v' w2 ho hb;obtain ⟨a8,m8,c8,f8,rfl,h8⟩:=AtmN.of hI.bel s7 n7 hb ho;have hH:=hI.below hb;exact ⟨rfl,_,rfl,trivial,⟨hH.bel,hH.m,fun _=>⟨q,rfl⟩,fun _=>⟨a7,m7,c7,a8,m8,c8,f8,e2,rfl,h8,fun e=>by have e:ls 7=true:=e;rw [l7] at e;cases e⟩⟩,fun j_ y_ _ _ hx=>hk _ _ j_ y_ hx⟩
  ·refine Owes7.mk _ rfl rfl (fun _ _ h=>by cases h) fun u n_ w' hm ls hI hli hld hlT hR=>⟨⟨(frm 11 [(5,u 2),(9,u 6)]).toArray,[]⟩,rfl,fun d hd=>by cases hd;exact frm_lt (by decide),?_⟩;dsimp only [frm,List.foldl,List.replicate,List.set];obtain ⟨a7,m7,c7,a8,m8,c8,f8,e2,e6,h8,-⟩:=hI.p (hlT 6 (by decide));have HI:Hid (CpI w0 ms hs (ls 2) (ls 3) (ls 6) true (u 2) (u 3) (u 6) (.agg #[.slice a7 m7 c7,.slice a8 m8 c8]) w'):=Lib.hid ⟨hI.bel,hI.m,hI.l,fun _=>⟨a7,m7,c7,a8,m8,c8,f8,e2,e6,h8,fun _=>rfl⟩⟩;rw [e2,e6] at HI;rw [e2,e6];clear hI hR hld hlT h8 e2 e6;go_wp2;exact ⟨rfl,_,rfl,trivial,HI.out,fun j_ y_ _ _ hx=>hk _ _ j_ y_ hx⟩
 case hend =>
  intro ls u w' hls hI hR;simp only [setAll,List.set_cons_zero,List.set_cons_succ];obtain ⟨xa,xn,xc,ya,yn,yc,fx,e2,e6,h8,e7⟩:=hI.p (hls 6 (by decide));rw [e7 (hls 7 (by decide))];obtain ⟨hrs,hr,hrf⟩:=R.out.below hI.bel;obtain ⟨u0,r0⟩:=hr 0 (by omega);obtain ⟨u1,r1⟩:=hr 1 (by omega);have q0:=hrf 0;have q1:=hrf 1;have H8:=Lib.hid h8;have HBw:=Lib.hid (B.out.trans (hI.bel.mono B.out.size));have HZ:=Lib.hid R.out.1;clear hR hk e2 e6 e7 h8 hI hls hr hrf X0 X1;go_wp2;have hc:Chg [w.heap.size+1] w' ((w'.setCell ⟨w.heap.size+1,0,none⟩ (.slice xa xn xc)).setCell ⟨w.heap.size+1,1,none⟩ (.slice ya yn yc)):=(store_chg _).trans' (store_chg _);have hz:=HZ.out;obtain ⟨a,a',n,c,n',c',f0',f1',e8,rfl,g0',g1',nw⟩:=H8.out.chg hc (fun b hb e=>by obtain ⟨_,_,_,_,_,_,_,_,_,rfl,_,_,nw⟩:=H8.out;have:=nw.lo b hb;simp at e;omega);exact bodyPost_ret (v:=.agg #[.slice xa xn xc,.slice ya yn yc]) (by simp [results,Try.results134,go_sem,put2a_0 _ _ r0,put2a_1 _ _ r1]) rfl ⟨_,_,rfl,⟨a,a',n,c,n',c',f0',f1',e8,rfl,g0',g1',fun b hb=>Nat.le_trans B.out.size (nw.lo b hb),nw.once,nw.free⟩,((HBw.out.chg [w.heap.size+1]).trans' hc).home (fun b hb=>by simp at hb;omega)⟩
end Go.Proofs.Ytmcjklicepaiaaa
namespace Go.Proofs.Ytmcjklicepaiaaa
open Go.RowKit Go.WideShapes
variable {α:Type} {K:Nat} {R:Pr α} {e:TypeId} {w w':World} {base:Nat} {v:Value} {l:List α}
theorem OwnP.chg (F:Fits K R) {fq:List Nat} {rows:List (CellsK K)} {fps:List (List Nat)} (h:OwnP K R e base w v l rows fps) (hc:Chg fq w w') (hf:∀ b,b∈fq->v.ownBlock≠some b∧b∉fps.flatten):OwnP K R e base w' v l rows fps:=by
 have hd:∀ b,b∈fps.flatten->b∉fq:=fun b hb hm=>(hf b hm).2 hb;refine ⟨?_,h.len,h.lenf,fun i h0 h1 h2=>F.chg (h.els i h0 h1 h2) hc fun b hb=>hd b (List.mem_flatten.2 ⟨_,List.getElem_mem h2,hb⟩),h.lo,h.once,h.free.chg (h.lt F) hc hd,h.apart⟩;rcases h.own.2 with ⟨q,h0⟩|⟨g,cap,cur,q,hg,r⟩
 ·exact ⟨h.own.1,.inl ⟨q,h0⟩⟩
 ·have hgl:g<w.heap.size:=by
   rcases Nat.lt_or_ge g w.heap.size with hh|hh
   ·exact hh
   ·have:=r.1;simp [Array.getElem?_eq_none hh] at this
  exact ⟨h.own.1,.inr ⟨g,cap,cur,q,hg,(hc.block g hgl (fun hm=>(hf g hm).1 (by rw [q];rfl))).trans r.1,r.2⟩⟩
end Go.Proofs.Ytmcjklicepaiaaa
namespace Go.Proofs.Ytmcjklicepaiaaa
open Go.RowKit Go.WideShapes
structure Pile (B:Nat) (G:Nat->Value->List Nat->World->Prop) (cv:List (Bool × Value)) (w:World) (F:Nat->List Nat):Prop where
 good:∀ k v,cv[k]?=some (true,v)->G k v (F k) w∧∀ c,c∈F k->B<=c∧c<w.heap.size
 apart:∀ k j v v',cv[k]?=some (true,v)->cv[j]?=some (true,v')->k≠j->∀ c,c∈F k->c∉F j
def Piled (B:Nat) (G:Nat->Value->List Nat->World->Prop) (cv:List (Bool × Value)) (w:World):Prop:=∃ F,Pile B G cv w F
def Keeps (G:Nat->Value->List Nat->World->Prop):Prop:=∀ k v f fq w w',G k v f w->(∀ c,c∈f->c<w.heap.size)->Chg fq w w'->(∀ c,c∈f->c∉fq)->G k v f w'
variable {B:Nat} {G:Nat->Value->List Nat->World->Prop} {cv:List (Bool × Value)} {w w':World} {F:Nat->List Nat} {fq:List Nat}
theorem Pile.chg (hG:Keeps G) (h:Pile B G cv w F) (hc:Chg fq w w') (hq:∀ k v,cv[k]?=some (true,v)->∀ c,c∈F k->c∉fq):Pile B G cv w' F :=
 ⟨fun k v e=>by
  obtain ⟨g,hl⟩:=h.good k v e;exact ⟨hG k v _ fq w w' g (fun c hm=>(hl c hm).2) hc (hq k v e),fun c hm=>⟨(hl c hm).1,Nat.lt_of_lt_of_le (hl c hm).2 hc.size⟩⟩,h.apart⟩
theorem Piled.chg (hG:Keeps G) (h:Piled B G cv w) (hc:Chg fq w w') (hq:∀ c,c∈fq->c<B):Piled B G cv w':=by
 obtain ⟨F,h⟩:=h;exact ⟨F,h.chg hG hc fun k v e c hm hc'=>by have:=(h.good k v e).2 c hm;have:=hq c hc';omega⟩
theorem Piled.start (h:∀ (k:Nat) (b:Bool) (v:Value),cv[k]?=some (b,v)->b=false):Piled B G cv w:=⟨fun _=>[],⟨fun k v e=>by (have:=h k _ v e;cases this),fun k j v v' e=>by (have:=h k _ v e;cases this)⟩⟩
theorem Piled.put (hG:Keeps G) (h:Piled B G cv w) (hb:Below w.heap.size w w') (hB:B<=w.heap.size) (k:Nat) {v:Value} {f:List Nat} (g:G k v f w') (hf:∀ c,c∈f->w.heap.size<=c∧c<w'.heap.size):Piled B G (cv.set k (true,v)) w':=by
 obtain ⟨F,h⟩:=h;have h':=h.chg hG (hb.chg []) (fun _ _ _ _ _=>by simp);have old:∀ j x,j≠k->(cv.set k (true,v))[j]?=some (true,x)->cv[j]?=some (true,x):=fun j x hj e=>by rwa [List.getElem?_set_ne (Ne.symm hj)] at e
 have hv:∀ x,(cv.set k (true,v))[k]?=some (true,x)->x=v:=fun x e=>by
  rw [List.getElem?_set_self'] at e;cases e':cv[k]? with
  | none=>rw [e'] at e;cases e
  | some y=>rw [e'] at e;simp at e;exact e.symm
 refine ⟨fun j=>if j=k then f else F j,⟨fun j x e=>?_,fun i j x y e1 e2 hij c hc=>?_⟩⟩
 ·by_cases hj:j=k
  ·subst hj;obtain rfl:=hv x e;simp only [if_pos];exact ⟨g,fun c hc=>⟨Nat.le_trans hB (hf c hc).1,(hf c hc).2⟩⟩
  ·simp only [if_neg hj];exact h'.good j x (old j x hj e)
 ·by_cases hi:i=k
  ·by_cases hj:j=k
   ·exact absurd (hi.trans hj.symm) hij
   ·simp only [if_pos hi] at hc;simp only [if_neg hj];intro hm;have:=(h.good j y (old j y hj e2)).2 c hm;have:=hf c hc;omega
  ·simp only [if_neg hi] at hc;by_cases hj:j=k
   ·simp only [if_pos hj];intro hm;have:=(h.good i x (old i x hi e1)).2 c hc;have:=hf c hm;omega
   ·simp only [if_neg hj];exact h.apart i j x y (old i x hi e1) (old j y hj e2) hij c hc
def PJob (B:Nat) (l:List Job) (v:Value) (f:List Nat) (w:World):Prop:=∃ rows fps,OwnP 5 jobR 64 B w v l rows fps∧f=v.ownBlock.toList++fps.flatten
def PGood (B:Nat) (ms hs qs:List Int) (lx ly lz:List Job):Nat->Value->List Nat->World->Prop
 | 0,v,f,w=>∃ a n c a' n' c' f0 f1,v = .agg #[.slice a n c,.slice a' n' c']∧f=f0++f1∧SlR 1 intR w ms (.slice a n c) f0∧SlR 1 intR w hs (.slice a' n' c') f1
 | 1,v,f,w=>SlR 1 intR w qs v f∧Free f w
 | 2,v,f,w=>PJob B lx v f w
 | 3,v,f,w=>PJob B ly v f w
 | 4,v,f,w=>PJob B lz v f w
 | _,_,_,_=>True
theorem PJob.chg {B:Nat} {l:List Job} {v:Value} {f fq:List Nat} {w w':World} (h:PJob B l v f w) (hc:Chg fq w w') (hn:∀ c,c∈f->c∉fq):PJob B l v f w':=by
 obtain ⟨rows,fps,h,rfl⟩:=h;exact ⟨rows,fps,h.chg jobR_fits hc fun b hb=>⟨fun e=>hn b (by simp [e]) hb,fun hm=>hn b (List.mem_append_right _ hm) hb⟩,rfl⟩
theorem PGood.keeps (B:Nat) (ms hs qs:List Int) (lx ly lz:List Job):Keeps (PGood B ms hs qs lx ly lz):=by
 intro k v f fq w w' h hl hc hn;unfold PGood at h ⊢
 split at h
 ·obtain ⟨a,n,c,a',n',c',f0,f1,e,rfl,g0,g1⟩:=h;exact ⟨a,n,c,a',n',c',f0,f1,e,rfl,g0.chg intR_fits hc (fun b hb=>hn b (by simp [hb])),g1.chg intR_fits hc (fun b hb=>hn b (by simp [hb]))⟩
 ·exact ⟨h.1.chg intR_fits hc hn,h.2.chg hl hc hn⟩
 ·exact h.chg hc hn
 ·exact h.chg hc hn
 ·exact h.chg hc hn
 ·trivial
theorem PJob.of {B:Nat} {l:List Job} {v:Value} {w w':World} (hB:B<=w.heap.size) (h:OwnE 5 jobR 64 w.heap.size w' v l):∃ f,PJob B l v f w'∧∀ c,c∈f->w.heap.size<=c∧c<w'.heap.size:=by
 obtain ⟨rows,fps,h⟩:=h;refine ⟨_,⟨rows,fps,⟨h.own.lower hB,h.len,h.lenf,h.els,fun b hm=>Nat.le_trans hB (h.lo b hm),h.once,h.free,h.apart⟩,rfl⟩,fun c hc=>?_⟩;rcases List.mem_append.1 hc with hc|hc
 ·exact World.ownsRow.lt h.own c (by simpa using hc)
 ·exact ⟨h.lo c hc,h.lt jobR_fits c hc⟩
def Copd (B:Nat) (ms hs qs:List Int) (lx ly lz:List Job) (v0 v1 v2 v3 v4 v5:Value) (w:World):Prop:=∃ B',B<=B'∧Piled B' (PGood B' ms hs qs lx ly lz) [(true,.agg #[v0,v1]),(true,v2),(true,v3),(true,v4),(true,v5)] w
theorem Copd.chg {B:Nat} {ms hs qs:List Int} {lx ly lz:List Job} {v0 v1 v2 v3 v4 v5:Value} {w w':World} {fq:List Nat} (h:Copd B ms hs qs lx ly lz v0 v1 v2 v3 v4 v5 w) (hc:Chg fq w w') (hq:∀ c,c∈fq->c<B):Copd B ms hs qs lx ly lz v0 v1 v2 v3 v4 v5 w':=by
 obtain ⟨B',hB,h⟩:=h;exact ⟨B',hB,h.chg (PGood.keeps _ _ _ _ _ _ _) hc fun c hm=>Nat.lt_of_lt_of_le (hq c hm) hB⟩
theorem Copd.lower {A B:Nat} {ms hs qs:List Int} {lx ly lz:List Job} {v0 v1 v2 v3 v4 v5:Value} {w:World} (h:Copd B ms hs qs lx ly lz v0 v1 v2 v3 v4 v5 w) (hA:A<=B):Copd A ms hs qs lx ly lz v0 v1 v2 v3 v4 v5 w:=h.imp fun _ h=>⟨Nat.le_trans hA h.1,h.2⟩
structure PileI (w0:World) (G:Nat->Value->List Nat->World->Prop) (cv:List (Bool × Value)) (w:World):Prop where
 bel:Below w0.heap.size w0 w
 pl:Piled w0.heap.size G cv w
theorem PileI.below {w0:World} (hG:Keeps G) (h:PileI w0 G cv w) (hb:Below w.heap.size w w'):PileI w0 G cv w':=⟨h.bel.trans (hb.mono h.bel.size),h.pl.chg hG (hb.chg []) (by simp)⟩
theorem PileI.put {w0:World} (hG:Keeps G) (h:PileI w0 G cv w) (hb:Below w.heap.size w w') (k:Nat) {v:Value} {f:List Nat} (g:G k v f w') (hf:∀ c,c∈f->w.heap.size<=c∧c<w'.heap.size):PileI w0 G (cv.set k (true,v)) w':=⟨h.bel.trans (hb.mono h.bel.size),h.pl.put hG hb h.bel.size k g hf⟩
theorem PileI.start {w0:World} (h:∀ (k:Nat) (b:Bool) (v:Value),cv[k]?=some (b,v)->b=false):PileI w0 G cv w0.drew:=⟨(Below.refl _ _).drew,Piled.start h⟩
theorem PileI.start5 {w0:World} {c0 c1 c2 c3 c4:Bool} {v0 v1 v2 v3 v4:Value} (h0:c0=false) (h1:c1=false) (h2:c2=false) (h3:c3=false) (h4:c4=false):PileI w0 G [(c0,v0),(c1,v1),(c2,v2),(c3,v3),(c4,v4)] w0.drew:=PileI.start fun k b v e=>by
 subst h0 h1 h2 h3 h4;rcases k with _|_|_|_|_|k<;>simp at e<;>first|exact e.1|exact e.1.symm
end Go.Proofs.Ytmcjklicepaiaaa
