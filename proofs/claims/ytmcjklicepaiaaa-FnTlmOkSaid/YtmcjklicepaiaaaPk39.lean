/-
 Texts of this claim laid together: Stmt DReqA.
-/
import Derived.Test.YtmcjklicepaiaaaPk38
import Derived.Deep.DeepCutAuto
import Derived.Deep.CutBlock
import Derived.WalkSmall
set_option linter.unusedVariables false
set_option linter.unusedSimpArgs false
namespace Go.Proofs.Ytmcjklicepaiaaa
open Go
def isTmp (k:Nat):Operand->Bool
 | .tmp s=>s == k
 | _=>false
def condAt (k:Nat):Code->Option Code
 | .seq a b=>match condAt k a with
  | some c=>some c
  | none=>condAt k b
 | .cond c t e=>match isTmp k c with
  | true=>some (.cond c t e)
  | false=>match condAt k t with
   | some d=>some d
   | none=>condAt k e
 | .block _ b=>condAt k b
 | .loop b=>condAt k b
 | .scope b=>condAt k b
 | _=>none
def ifAt (k:Nat) (f:Func):Code:=match condAt k (f.body.getD .skip) with
 | some c=>c
 | none=>.skip
end Go.Proofs.Ytmcjklicepaiaaa
namespace Go.Proofs.Ytmcjklicepaiaaa
open Go.RowKit Go.ChangeShapes Go.WideShapes
structure QAt (bq:Nat) (w:World) (x:Req) (vd vl:Value):Prop where
 c0:w.cell? ⟨bq,0,none⟩=some (.int .i64 x.id)
 c1:w.cell? ⟨bq,1,none⟩=some (.int .i64 x.kind)
 c2:w.cell? ⟨bq,2,none⟩=some (.int .i64 x.addr)
 c3:w.cell? ⟨bq,3,none⟩=some (.int .i64 x.many)
 c4:w.cell? ⟨bq,4,none⟩=some (.bool x.wrap)
 c5:w.cell? ⟨bq,5,none⟩=some vd
 c6:w.cell? ⟨bq,6,none⟩=some vl
 fz:∀ j,w.frozen? ⟨bq,j,none⟩=false
 d:IntRow (bq+1) w vd x.data
 l:IntRow (bq+1) w vl x.lanes
 ne:vl.ownBlock=none∨vl.ownBlock≠vd.ownBlock
theorem QAt.lt {bq:Nat} {w:World} {x:Req} {vd vl:Value} (h:QAt bq w x vd vl):bq<w.heap.size:=block_of_cell h.c0
theorem QAt.chg {bq rb:Nat} {w w':World} {x:Req} {vd vl:Value} (h:QAt bq w x vd vl) (hc:Chg [rb] w w') (hr:rb<bq):QAt bq w' x vd vl:=by
 have nb:bq∉[rb]:=by simp;omega
 exact ⟨keep_cell_chg hc h.c0 nb,keep_cell_chg hc h.c1 nb,keep_cell_chg hc h.c2 nb,keep_cell_chg hc h.c3 nb,keep_cell_chg hc h.c4 nb,keep_cell_chg hc h.c5 nb,keep_cell_chg hc h.c6 nb,fun j=>(World.frozen?_of_block (hc.block bq h.lt nb)).trans (h.fz j),OwnR.chg h.d hc (by omega),OwnR.chg h.l hc (by omega),h.ne⟩
theorem QAt.below {bq:Nat} {w w':World} {x:Req} {vd vl:Value} (h:QAt bq w x vd vl) (hb:Below w.heap.size w w'):QAt bq w' x vd vl :=
 ⟨keep_cell hb h.c0,keep_cell hb h.c1,keep_cell hb h.c2,keep_cell hb h.c3,keep_cell hb h.c4,keep_cell hb h.c5,keep_cell hb h.c6,fun j=>(World.frozen?_of_block (hb.block bq h.lt)).trans (h.fz j),OwnR.below h.d hb,OwnR.below h.l hb,h.ne⟩
theorem QAt.setId {bq:Nat} {w:World} {x:Req} {vd vl:Value} (h:QAt bq w x vd vl) (y:Int):QAt bq (w.setCell ⟨bq,0,none⟩ (.int .i64 y)) { x with id:=y } vd vl :=
 ⟨setSame _ h.c0,setOther _ (by decide) h.c1,setOther _ (by decide) h.c2,setOther _ (by decide) h.c3,setOther _ (by decide) h.c4,setOther _ (by decide) h.c5,setOther _ (by decide) h.c6,fun j=>(World.frozen?_setCell _ _ _ _).trans (h.fz j),OwnR.chg h.d (store_chg _) (by omega),OwnR.chg h.l (store_chg _) (by omega),h.ne⟩
theorem QAt.setKind {bq:Nat} {w:World} {x:Req} {vd vl:Value} (h:QAt bq w x vd vl) (y:Int):QAt bq (w.setCell ⟨bq,1,none⟩ (.int .i64 y)) { x with kind:=y } vd vl :=
 ⟨setOther _ (by decide) h.c0,setSame _ h.c1,setOther _ (by decide) h.c2,setOther _ (by decide) h.c3,setOther _ (by decide) h.c4,setOther _ (by decide) h.c5,setOther _ (by decide) h.c6,fun j=>(World.frozen?_setCell _ _ _ _).trans (h.fz j),OwnR.chg h.d (store_chg _) (by omega),OwnR.chg h.l (store_chg _) (by omega),h.ne⟩
theorem QAt.setAddr {bq:Nat} {w:World} {x:Req} {vd vl:Value} (h:QAt bq w x vd vl) (y:Int):QAt bq (w.setCell ⟨bq,2,none⟩ (.int .i64 y)) { x with addr:=y } vd vl :=
 ⟨setOther _ (by decide) h.c0,setOther _ (by decide) h.c1,setSame _ h.c2,setOther _ (by decide) h.c3,setOther _ (by decide) h.c4,setOther _ (by decide) h.c5,setOther _ (by decide) h.c6,fun j=>(World.frozen?_setCell _ _ _ _).trans (h.fz j),OwnR.chg h.d (store_chg _) (by omega),OwnR.chg h.l (store_chg _) (by omega),h.ne⟩
theorem QAt.setMany {bq:Nat} {w:World} {x:Req} {vd vl:Value} (h:QAt bq w x vd vl) (y:Int):QAt bq (w.setCell ⟨bq,3,none⟩ (.int .i64 y)) { x with many:=y } vd vl :=
 ⟨setOther _ (by decide) h.c0,setOther _ (by decide) h.c1,setOther _ (by decide) h.c2,setSame _ h.c3,setOther _ (by decide) h.c4,setOther _ (by decide) h.c5,setOther _ (by decide) h.c6,fun j=>(World.frozen?_setCell _ _ _ _).trans (h.fz j),OwnR.chg h.d (store_chg _) (by omega),OwnR.chg h.l (store_chg _) (by omega),h.ne⟩
theorem QAt.pushD {bq:Nat} {w w1:World} {x:Req} {vd vl vd':Value} {ns:List Int} (h:QAt bq w x vd vl) (hg:w.grownBy w1 vd.ownBlock) (ho:IntRow (bq+1) w1 vd' (x.data++ns)) (hb:vd'.ownBlock=vd.ownBlock∨vd'.ownBlock=some w.heap.size):QAt bq (w1.setCell ⟨bq,5,none⟩ vd') { x with data:=x.data++ns } vd' vl:=by
 have hne:some bq≠vd.ownBlock:=fun e=>by have:=(own_lt h.d e.symm).1;omega
 have hl:IntRow (bq+1) w1 vl x.lanes:=World.ownsRow.kept h.l hg h.ne;refine ⟨setOther _ (by decide) (hg.cell h.c0 hne),setOther _ (by decide) (hg.cell h.c1 hne),setOther _ (by decide) (hg.cell h.c2 hne),setOther _ (by decide) (hg.cell h.c3 hne),setOther _ (by decide) (hg.cell h.c4 hne),setSame _ (hg.cell h.c5 hne),setOther _ (by decide) (hg.cell h.c6 hne),
  fun j=>(World.frozen?_setCell _ _ _ _).trans ((World.frozen?_of_block (hg.block bq h.lt hne)).trans (h.fz j)),OwnR.chg ho (store_chg _) (by omega),OwnR.chg hl (store_chg _) (by omega),?_⟩
 rcases hb with hb|hb
 ·rw [hb];exact h.ne
 ·rw [hb];cases e:vl.ownBlock with
  | none=>exact .inl rfl
  | some g=>right;intro q;have:=(own_lt h.l e).2;have:=Option.some.inj q;omega
theorem QAt.pushL {bq:Nat} {w w1:World} {x:Req} {vd vl vl':Value} {ns:List Int} (h:QAt bq w x vd vl) (hg:w.grownBy w1 vl.ownBlock) (ho:IntRow (bq+1) w1 vl' (x.lanes++ns)) (hb:vl'.ownBlock=vl.ownBlock∨vl'.ownBlock=some w.heap.size):QAt bq (w1.setCell ⟨bq,6,none⟩ vl') { x with lanes:=x.lanes++ns } vd vl':=by
 have hne:some bq≠vl.ownBlock:=fun e=>by have:=(own_lt h.l e.symm).1;omega
 have hd:IntRow (bq+1) w1 vd x.data:=World.ownsRow.kept h.d hg (by
  rcases h.ne with e|e
  ·cases e2:vd.ownBlock with
   | none=>exact .inl rfl
   | some g=>right;rw [e];simp
  ·exact .inr (fun q=>e q.symm))
 refine ⟨setOther _ (by decide) (hg.cell h.c0 hne),setOther _ (by decide) (hg.cell h.c1 hne),setOther _ (by decide) (hg.cell h.c2 hne),setOther _ (by decide) (hg.cell h.c3 hne),setOther _ (by decide) (hg.cell h.c4 hne),setOther _ (by decide) (hg.cell h.c5 hne),setSame _ (hg.cell h.c6 hne),
  fun j=>(World.frozen?_setCell _ _ _ _).trans ((World.frozen?_of_block (hg.block bq h.lt hne)).trans (h.fz j)),OwnR.chg hd (store_chg _) (by omega),OwnR.chg ho (store_chg _) (by omega),?_⟩
 rcases hb with hb|hb
 ·rw [hb];exact h.ne
 ·rw [hb];right;intro q;have:=(own_lt h.d q.symm).2;omega
def FBox (B:Nat):Fact:=fun v w=>∃ bq:Nat,v = .pointer (some ⟨bq,0,none⟩)∧B<=bq∧(∀ j,j<7->∃ u,w.cell? ⟨bq,j,none⟩=some u)∧∀ j,w.frozen? ⟨bq,j,none⟩=false
theorem stBox {B rb:Nat} (h:rb<B):Stable [rb] (FBox B):=fun _ w _ ⟨bq,e,hb,hc,hf⟩ hg=>by
 have nb:bq∉[rb]:=by simp;omega
 obtain ⟨u,hu⟩:=hc 0 (by omega);have hlt:bq<w.heap.size:=block_of_cell hu;exact ⟨bq,e,hb,fun j hj=>by obtain ⟨u,hu⟩:=hc j hj;exact ⟨u,keep_cell_chg hg hu nb⟩,fun j=>(World.frozen?_of_block (hg.block bq hlt nb)).trans (hf j)⟩
def P124 (x:Int):Prop:=x=1∨x=2∨x=4
def FReq0:Fact:=fun v _=>∃ (id kd ad mn:Int) (wp:Bool),v = .agg #[.int .i64 id,.int .i64 kd,.int .i64 ad,.int .i64 mn,.bool wp,.slice none 0 0,.slice none 0 0]∧0<=id∧id<=1∧1<=kd∧kd<=4∧0<=ad∧ad<=63∧P124 mn
structure Good0 (x:Req):Prop where
 i0:0<=x.id
 i1:x.id<=1
 k0:1<=x.kind
 k1:x.kind<=4
 a0:0<=x.addr
 a1:x.addr<=63
 m:P124 x.many
 h:3<=x.kind->x.many=1
def Good1 (x:Req):Prop:=Good0 x∧(x.wrap=true∨x.addr+x.many<=64)
theorem good_ok {x:Req} (g:Good1 x) (hd:(x.data.length:Int)=manyOf x) (hl:(x.lanes.length:Int)=manyOf x) (ad:allIn x.data 0 65535=true) (al:allIn x.lanes 0 3=true):reqOk x=true:=by
 obtain ⟨g0,gw⟩:=g;unfold reqOk;have h1:inB x.id 0 1=true:=inB_true.2 ⟨g0.i0,g0.i1⟩;have h2:inB x.kind 1 4=true:=inB_true.2 ⟨g0.k0,g0.k1⟩;have h3:adrOk x.addr x.many x.wrap=true:=adrOk_true.2 ⟨g0.a0,g0.a1,g0.m,gw⟩;have h4:(x.kind == 1 || x.kind == 2 || x.many == 1)=true:=by
  by_cases hk:3<=x.kind
  ·simp [g0.h hk]
  ·have:=g0.k0;have:x.kind=1∨x.kind=2:=by omega
   rcases this with e|e<;>simp [e]
 rw [h1,h2,h3,hd,hl,ad,al,h4];simp
theorem Good1.data {y:Req} {d:List Int} (g:Good1 y):Good1 { y with data:=d }:=⟨⟨g.1.i0,g.1.i1,g.1.k0,g.1.k1,g.1.a0,g.1.a1,g.1.m,g.1.h⟩,g.2⟩
theorem Good1.lanes {y:Req} {d:List Int} (g:Good1 y):Good1 { y with lanes:=d }:=⟨⟨g.1.i0,g.1.i1,g.1.k0,g.1.k1,g.1.a0,g.1.a1,g.1.m,g.1.h⟩,g.2⟩
theorem Good1.both {y:Req} {d l:List Int} (g:Good1 y):Good1 { y with data:=d,lanes:=l }:=⟨⟨g.1.i0,g.1.i1,g.1.k0,g.1.k1,g.1.a0,g.1.a1,g.1.m,g.1.h⟩,g.2⟩
theorem own_far {α:Type} {K:Nat} {c:α->List Value} {e:TypeId} {base g j:Nat} {w:World} {v u:Value} {l:List α} (h:OwnR K c e base w v l) (hne:v.ownBlock≠some g):OwnR K c e base (w.setCell ⟨g,j,none⟩ u) v l:=by
 obtain ⟨hl,⟨rfl,h1⟩|⟨g',cap,cur,rfl,hb,hg,hnc,hcm,hcs,htake⟩⟩:=h
 ·exact ⟨hl,.inl ⟨rfl,h1⟩⟩
 ·refine ⟨hl,.inr ⟨g',cap,cur,rfl,hb,(Below.heap_setCell _ _ _ _ (fun e=>hne (congrArg some e))).trans hg,hnc,hcm,hcs,htake⟩⟩
theorem QAt.storeD {bq g n cap i:Nat} {w:World} {x:Req} {vl:Value} (h:QAt bq w x (.slice (some ⟨g,0,none⟩) n cap) vl) (hi:i<x.data.length) (y:Int):QAt bq (w.setCell ⟨g,i,none⟩ (.int .i64 y)) { x with data:=x.data.set i y } (.slice (some ⟨g,0,none⟩) n cap) vl:=by
 have hg:bq+1<=g:=(own_lt h.d (g:=g) rfl).1;have hne:g≠bq:=by omega
 have hon:IntRow (bq+1) (w.setCell ⟨g,i,none⟩ (.int .i64 y)) (.slice (some ⟨g,0,none⟩) n cap) (x.data.set i y):=by simpa using OwnR.store IntC_len h.d hi (j:=0) (by decide) (.int .i64 y) y rfl
 refine ⟨setFar _ hne h.c0,setFar _ hne h.c1,setFar _ hne h.c2,setFar _ hne h.c3,setFar _ hne h.c4,setFar _ hne h.c5,setFar _ hne h.c6,fun j=>(World.frozen?_setCell _ _ _ _).trans (h.fz j),hon,own_far h.l (fun e=>?_),h.ne⟩;rcases h.ne with e'|e'
 ·rw [e] at e';cases e'
 ·exact e' (by rw [e];rfl)
theorem allIn_app {l m:List Int} {lo hi:Int} (h:allIn l lo hi=true) (g:allIn m lo hi=true):allIn (l++m) lo hi=true:=by
 unfold allIn at *;rw [List.all_append,h,g];rfl
theorem allIn_one {z lo hi:Int} (h1:lo<=z) (h2:z<=hi):allIn [z] lo hi=true:=by simp [allIn,inB];omega
theorem put7 {w:World} {b:Nat} (h:∀ j,j<7->∃ u,w.cell? ⟨b,j,none⟩=some u) (cs:List Value) (hl:cs.length=7) (j:Nat) (hj:j<cs.length):(putCells b w 0 cs).cell? ⟨b,j,none⟩=some cs[j]:=by
 have:=putCells_in (g:=b) cs w 0 j hj (fun q hq=>by rw [Nat.zero_add];exact h q (by omega))
 rwa [Nat.zero_add] at this
end Go.Proofs.Ytmcjklicepaiaaa
