/-
 Texts of this claim laid together: Clone Facts2 Told.
-/
import Derived.Test.YtmcjklicepaiaaaPk22
import Derived.OwnWalk
import Derived.KernelRfl
import Derived.WalkSpells
import Derived.WalkSmall
import Derived.StillTailTactics
import Derived.Deep.QuietTactic
import Derived.BigQuiet
import Derived.Deep.Cut
set_option linter.unusedVariables false
set_option linter.unusedSimpArgs false
namespace Go.Proofs.Ytmcjklicepaiaaa
open Go.RowKit Go.ChangeShapes
theorem infoCI:(Try.prog.info? 3).map (fun i=>(i.zero,i.size,i.bytes))=some (some (.int .i64 0),1,8):=by kernel_rfl
end Go.Proofs.Ytmcjklicepaiaaa
namespace Go.Proofs.Ytmcjklicepaiaaa
open Go.RowKit
def FOwn {α:Type} (K:Nat) (c:α->List Value) (e:TypeId) (base:Nat) (l:List α):Fact:=fun v w=>OwnR K c e base w v l
theorem stOwn {α:Type} (K:Nat) (c:α->List Value) (e:TypeId) (base:Nat) (l:List α):Stable [] (FOwn K c e base l):=fun _ _ _ h hc=>OwnR.below h hc.below
end Go.Proofs.Ytmcjklicepaiaaa
namespace Go.Proofs.Ytmcjklicepaiaaa
def tbl5Rsp1:List (List Nat):=[[],[0],[],[2],[],[],[5],[4,5,6],[0,1,2,3,4,5,6,7],[0,1,2,3,4,5,6,7,8]]
open Go.RowKit Go.ChangeShapes
def FLit {α:Type} (K:Nat) (c:α->List Value) (e:TypeId) (base:Nat):Fact:=fun v w=>∃ q,v = .slice (some ⟨q,0,none⟩) 0 0∧OwnR K c e base w v []
theorem stLit {α:Type} (K:Nat) (c:α->List Value) (e:TypeId) (base:Nat):Stable [] (FLit K c e base):=fun _ _ _ ⟨q,e,h⟩ hc=>⟨q,e,h.below hc.below⟩
def FRspN (W:World) (x:Rsp):Fact:=fun v w=>∃ (dv:Value) (f:List Nat),v = .agg #[.int .i64 x.id,.int .i64 x.code,dv]∧SlR 1 intR w x.data dv f∧New f W w
theorem stRspN (W:World) (x:Rsp):Stable [] (FRspN W x):=fun _ _ _ ⟨dv,f,e,h,hn⟩ hc=>⟨dv,f,e,h.chg intR_fits hc (fun _ _=>by simp),hn.later (h.lt intR_fits) hc⟩
def FJobN (W:World) (x:Job):Fact:=fun v w=>∃ (dv:Value) (f:List Nat),v = .agg #[.int .i64 x.who,.int .i64 x.n,.int .i64 x.rsp.id,.int .i64 x.rsp.code,dv]∧SlR 1 intR w x.rsp.data dv f∧New f W w
theorem stJobN (W:World) (x:Job):Stable [] (FJobN W x):=fun _ _ _ ⟨dv,f,e,h,hn⟩ hc=>⟨dv,f,e,h.chg intR_fits hc (fun _ _=>by simp),hn.later (h.lt intR_fits) hc⟩
set_option maxRecDepth 100000 in
set_option maxHeartbeats 1600000 in
theorem l5Rsp_any (x:Rsp) (v:Value) (fp:List Nat) (hs:x.data.length<=1048576) (w:World) (g:SlR 1 intR w x.data v fp) :
 Calls Try.prog 81 #[.agg #[.int .i64 x.id,.int .i64 x.code,v]] w fun e w'=>∃ v' fp',e = .returned (.agg #[.int .i64 x.id,.int .i64 x.code,v'])∧SlR 1 intR w' x.data v' fp'∧New fp' w w'∧Below w.heap.size w w':=by
 obtain ⟨da,dn,dc,rfl⟩:=g.form;obtain ⟨i0,hi,hz0,hz1,hz2⟩:=info_parts infoCI;obtain ⟨w0,hw0⟩:∃ w0,w0=(w.alloc (.cells #[.int .i64 x.id,.int .i64 x.code,.slice da dn dc] 62)).alloc (.cells #[.int .i64 0,.int .i64 0,.slice none 0 0] 62):=⟨_,rfl⟩;have hb0:Below w.heap.size w w0:=by rw [hw0];exact (below_alloc w _).trans ((below_alloc _ _).mono (by simp))
 have X0:w0.cell? ⟨w.heap.size,0,none⟩=some (.int .i64 x.id):=by rw [hw0];exact alloc_keep (alloc1_new _ _ _ 0 rfl) _
 have X1:w0.cell? ⟨w.heap.size,1,none⟩=some (.int .i64 x.code):=by rw [hw0];exact alloc_keep (alloc1_new _ _ _ 1 rfl) _
 have X2:w0.cell? ⟨w.heap.size,2,none⟩=some (.slice da dn dc):=by rw [hw0];exact alloc_keep (alloc1_new _ _ _ 2 rfl) _
 have Y0:w0.cell? ⟨w.heap.size+1,0,none⟩=some (.int .i64 0):=by rw [hw0];exact alloc2_new _ _ _ _ _ 0 rfl
 have Y1:w0.cell? ⟨w.heap.size+1,1,none⟩=some (.int .i64 0):=by rw [hw0];exact alloc2_new _ _ _ _ _ 1 rfl
 have Y2:w0.cell? ⟨w.heap.size+1,2,none⟩=some (.slice none 0 0):=by rw [hw0];exact alloc2_new _ _ _ _ _ 2 rfl
 have Z0:w0.frozen? ⟨w.heap.size+1,0,none⟩=false:=by rw [hw0];exact World.frozen?_alloc_at _ _ _ _ (by simp)
 have Z1:w0.frozen? ⟨w.heap.size+1,1,none⟩=false:=by rw [hw0];exact World.frozen?_alloc_at _ _ _ _ (by simp)
 have Z2:w0.frozen? ⟨w.heap.size+1,2,none⟩=false:=by rw [hw0];exact World.frozen?_alloc_at _ _ _ _ (by simp)
 have hz:w.heap.size+1<w0.heap.size:=by rw [hw0];simp
 have G:=Lib.hid (SlR.below intR_fits g hb0);have B:=Lib.hid hb0;clear g hb0;go_enter Try.func81,Try.ntmps81
 go_upto_region 1 with fail
 rw [<- hw0];clear hw0;have hst:∀ F,F∈[FEq (.pointer (some ⟨w.heap.size,0,none⟩)),FEq (.int .i64 x.id),FEq (.pointer (some ⟨w.heap.size,1,none⟩)),FEq (.int .i64 x.code),FLit 1 IntC 3 w0.heap.size,FEq (.pointer (some ⟨w.heap.size,2,none⟩)),FEq (.slice da dn dc),FOwn 1 IntC 3 w0.heap.size x.data]->Stable [] F:=by repeat first|exact st_nil|refine st_eq ?_|refine st_cons (by first|exact stLit _ _ _ _|exact stOwn _ _ _ _ _) ?_
 refine wp_tailH hst tbl5Rsp1 (fun _ w'=>Below w0.heap.size w0 w') 12 10 8 [some 3,some 4,some 5,some 6,some 7,some 8,some 9,some 10] _ [] ?h0 ?hop ?hend
 case h0=>exact (Below.refl _ _).drew
 case hop =>
  refine ⟨⟨⟨⟨⟨⟨⟨⟨trivial,?_⟩,?_⟩,?_⟩,?_⟩,?_⟩,?_⟩,?_⟩,?_⟩
  ·refine Owes.q 12 (fun u=>[(1,.pointer (some ⟨w.heap.size,0,none⟩))]) fun u w' hI hR=>?_;dsimp only [frm,List.foldl,List.replicate,List.set];obtain ⟨_,hI⟩:=hI;have k0:=keep_cell hI X0;have k1:=keep_cell hI X1;have k2:=keep_cell hI X2;clear hI hst hR;go_wp2;exact ⟨rfl,_,rfl,rfl,rfl⟩
  ·refine Owes.q 12 (fun u=>[(3,u 0)]) fun u w' hI hR=>?_;dsimp only [frm,List.foldl,List.replicate,List.set];obtain ⟨_,hI⟩:=hI;have k0:=keep_cell hI X0;have k1:=keep_cell hI X1;have k2:=keep_cell hI X2;have e0:u 0=_:=hR 0 (by decide);rw [e0];clear hI hst hR;go_wp2;exact ⟨rfl,_,rfl,rfl,rfl⟩
  ·refine Owes.q 12 (fun u=>[(1,.pointer (some ⟨w.heap.size,0,none⟩))]) fun u w' hI hR=>?_;dsimp only [frm,List.foldl,List.replicate,List.set];obtain ⟨_,hI⟩:=hI;have k0:=keep_cell hI X0;have k1:=keep_cell hI X1;have k2:=keep_cell hI X2;clear hI hst hR;go_wp2;exact ⟨rfl,_,rfl,rfl,rfl⟩
  ·refine Owes.q 12 (fun u=>[(5,u 2)]) fun u w' hI hR=>?_;dsimp only [frm,List.foldl,List.replicate,List.set];obtain ⟨_,hI⟩:=hI;have k0:=keep_cell hI X0;have k1:=keep_cell hI X1;have k2:=keep_cell hI X2;have e2:u 2=_:=hR 2 (by decide);rw [e2];clear hI hst hR;go_wp2;exact ⟨rfl,_,rfl,rfl,rfl⟩
  ·refine Owes.mk _ rfl rfl (fun _ _ h=>by cases h) fun u m w' hm hI hR=>⟨⟨(frm 12 []).toArray,[]⟩,rfl,fun d hd=>by cases hd;exact frm_lt (by decide),?_⟩;dsimp only [frm,List.foldl,List.replicate,List.set];have HI:=Lib.hid hI;have HS:=Lib.hid (facts_stable hst ((below_alloc w' (.cells #[] 3)).chg []));clear hI hst hR;go_wp2;exact ⟨rfl,_,rfl,⟨_,rfl,OwnR.lit w' #[] 0 [] IntC_len rfl rfl HI.out.size (Nat.zero_le _)⟩,HI.out.trans ((below_alloc _ _).mono HI.out.size),HS.out⟩
  ·refine Owes.q 12 (fun u=>[(1,.pointer (some ⟨w.heap.size,0,none⟩))]) fun u w' hI hR=>?_;dsimp only [frm,List.foldl,List.replicate,List.set];obtain ⟨_,hI⟩:=hI;have k0:=keep_cell hI X0;have k1:=keep_cell hI X1;have k2:=keep_cell hI X2;clear hI hst hR;go_wp2;exact ⟨rfl,_,rfl,rfl,rfl⟩
  ·refine Owes.q 12 (fun u=>[(8,u 5)]) fun u w' hI hR=>?_;dsimp only [frm,List.foldl,List.replicate,List.set];obtain ⟨_,hI⟩:=hI;have k0:=keep_cell hI X0;have k1:=keep_cell hI X1;have k2:=keep_cell hI X2;have e5:u 5=_:=hR 5 (by decide);rw [e5];clear hI hst hR;go_wp2;exact ⟨rfl,_,rfl,rfl,rfl⟩
  ·refine Owes.mk _ rfl rfl (fun _ _ h=>by cases h) fun u m w' hm hI hR=>⟨⟨(frm 12 [(7,u 4),(9,u 6)]).toArray,[]⟩,rfl,fun d hd=>by cases hd;exact frm_lt (by decide),?_⟩;dsimp only [frm,List.foldl,List.replicate,List.set];have e6:u 6=_:=hR 6 (by decide);rw [e6];clear e6;obtain ⟨q,e4,o4⟩:=hR 4 (by decide);rw [e4] at o4;rw [e4];have gg:SlR 1 (flatR IntC) w' x.data (.slice da dn dc) fp:=SlR.below intR_fits G.out hI;refine wpList_append_lit (K:=1) (c:=IntC) (news:=x.data) rfl _ _ 24 3 i0 (.int .i64 0) 8 IntC_len rfl Try.underlying24 hi hz0 hz1 hz2 rfl (by decide) (by decide) rfl rfl o4 gg hI.size (by have:=gg;obtain ⟨_,_,_,e,h,_⟩:=this;simp only [Value.slice.injEq] at e;omega) ?_;intro v' w2 ho hb;exact ⟨rfl,_,rfl,ho,hI.trans (hb.mono hI.size),facts_stable hst (hb.chg [])⟩
 case hend =>
  intro u w' hI hR;simp only [setAll,List.set_cons_zero,List.set_cons_succ];have e1:u 1=_:=hR 1 (by decide);have e3:u 3=_:=hR 3 (by decide);have o7:OwnR 1 IntC 3 w0.heap.size w' (u 7) x.data:=hR 7 (by decide);obtain ⟨va,vn,vc,e7,_⟩:=o7.slice;rw [e7] at o7;rw [e1,e3,e7];have O:=Lib.hid o7;have HI:=Lib.hid hI;replace Y0:=keep_cell hI Y0;replace Y1:=keep_cell hI Y1;replace Y2:=keep_cell hI Y2;replace Z0:=keep_free hI hz Z0;replace Z1:=keep_free hI hz Z1;replace Z2:=keep_free hI hz Z2;replace B:=Lib.hid (B.out.trans (hI.mono B.out.size));have BZ:=Lib.hid hI.size;clear hR hst e1 e3 e7 o7 hI X0 X1 X2;go_wp2;obtain ⟨fp',g1,g2,g3,g4⟩:=intRow_reads O.out;have hd:∀ b,b∈fp'->b∉[w.heap.size+1]:=fun b hb hm=>by have:=g2 b hb;simp at hm;omega
  have hc3:=chg3 (w.heap.size+1) w' (.int .i64 x.id) (.int .i64 x.code) (.slice va vn vc);exact bodyPost_ret (v:=.agg #[.int .i64 x.id,.int .i64 x.code,.slice va vn vc]) (by simp [results,Try.results81,go_sem,Y0,Y1,Y2]) rfl ⟨_,fp',rfl,g1.chg intR_fits hc3 hd,⟨fun b hb=>by have:=g2 b hb;have:=B.out.size;have:=BZ.out;omega,g3,g4.chg (g1.lt intR_fits) hc3 hd⟩,((B.out.chg [w.heap.size+1]).trans' hc3).home (fun b hb=>by simp at hb;omega)⟩
end Go.Proofs.Ytmcjklicepaiaaa
