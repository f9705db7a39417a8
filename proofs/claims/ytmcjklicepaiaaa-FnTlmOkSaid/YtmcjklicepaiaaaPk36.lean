/-
 Texts of this claim laid together: Rep AtmNew Any.
-/
import Derived.Test.YtmcjklicepaiaaaPk18
import Derived.Laws.CopyOwn
import Derived.Deep.RegionLaw
import Derived.RegionTactic
import Derived.OwnWalk
import Derived.Lib.Mul64
import Derived.Laws.Bits64b
import Derived.WalkSmall
set_option linter.unusedVariables false
set_option linter.unusedSimpArgs false
namespace Go.Proofs.Ytmcjklicepaiaaa
open Go.RowKit Go.ChangeShapes Go.WideShapes
end Go.Proofs.Ytmcjklicepaiaaa
namespace Go.Proofs.Ytmcjklicepaiaaa
open Go.RowKit
theorem put2_0 {w:World} {b:Nat} {u:Value} (s t:Value) (h:w.cell? ⟨b,0,none⟩=some u):((w.setCell ⟨b,0,none⟩ s).setCell ⟨b,1,none⟩ t).cell? ⟨b,0,none⟩=some s :=
 (World.cell?_setCell_other _ _ _ _ (by simp)).trans (World.cell?_setCell_same _ _ _ h)
theorem put2_1 {w:World} {b:Nat} {u:Value} (s t:Value) (h:w.cell? ⟨b,1,none⟩=some u):((w.setCell ⟨b,0,none⟩ s).setCell ⟨b,1,none⟩ t).cell? ⟨b,1,none⟩=some t :=
 World.cell?_setCell_same _ _ _ ((World.cell?_setCell_other _ _ _ _ (by simp)).trans h)
theorem own_form {w:World} {base e size n:Nat} {v:Value} {xs:List Value} (h:w.ownsRow base e size v n xs):∃ (a:Option Addr) (n c:Nat),v = .slice a n c:=by
 rcases h.2 with ⟨rfl,_⟩|⟨g,cap,cur,rfl,_⟩
 ·exact ⟨_,_,_,rfl⟩
 ·exact ⟨_,_,_,rfl⟩
def atmNew:Atm:=⟨List.replicate 64 0,List.replicate 6 (-1)⟩
set_option maxRecDepth 100000 in
set_option maxHeartbeats 3200000 in
theorem sAtmNew_any (w:World) :
 Calls Try.prog 92 #[] w fun e w'=>∃ v0 fp0 v1 fp1,e = .returned (.agg #[v0,v1])∧SlR 1 intR w' atmNew.mem v0 fp0∧SlR 1 intR w' atmNew.holds v1 fp1∧New (fp0++fp1) w w'∧Below w.heap.size w w':=by
 obtain ⟨i0,hi,hz0,hz1,hz2⟩:=info_parts infoInt;go_enter Try.func92,Try.ntmps92
 go_wp2_with fail
 refine (sMemNew_any _).mono ?_;rintro e w1 ⟨v0,fp0,rfl,g0,n0,b0⟩;obtain ⟨a0,l0,k0,rfl⟩:=g0.form;have z0:w.heap.size<w1.heap.size:=by have:=b0.size;simp at this;omega
 have lo0:∀ b,b∈fp0->w.heap.size<b:=fun b hb=>by have:=n0.lo b hb;simp at this;omega
 have hi0:=g0.lt intR_fits;have d0:=keep_cell b0 (alloc1_new w _ _ 0 rfl);have d1:=keep_cell b0 (alloc1_new w _ _ 1 rfl);have f0:∀ i,w1.frozen? ⟨w.heap.size,i,none⟩=false:=fun i=>keep_free b0 (by simp) (World.frozen?_alloc_at _ _ _ _ rfl);have B1:=Lib.hid ((below_alloc w _).trans (b0.mono (by simp)));have G0:=Lib.hid g0;have F0:=Lib.hid n0.free;have ON0:=Lib.hid n0.once;have LO0:=Lib.hid lo0;have HI0:=Lib.hid hi0;have FZ:=Lib.hid f0;have D0:=Lib.hid d0;have D1:=Lib.hid d1;clear g0 n0 b0 lo0 hi0 f0 d0 d1;go_wp2_with fail
 go_loopw [2] (fun i wr=>∃ (k:Nat) (v:Value),k<=6∧i = .int .i64 k∧wr.cell? ⟨w1.heap.size,0,none⟩=some (.slice a0 l0 k0)∧wr.cell? ⟨w1.heap.size,1,none⟩=some v∧(∀ j,wr.frozen? ⟨w1.heap.size,j,none⟩=false)∧wr.ownsRow (w1.heap.size+1) 3 1 v k ((List.replicate k (-1:Int)).map (Value.int .i64))∧Below w1.heap.size w1 wr∧w1.heap.size+1<=wr.heap.size) (fun i _=>6 - (intOf i).toNat)
 case atStart=>exact ⟨0,_,by omega,rfl,alloc1_new w1 _ _ 0 rfl,alloc1_new w1 _ _ 1 rfl,fun j=>World.frozen?_alloc_at _ _ _ _ rfl,World.ownsRow_nil _ _ _ _,below_alloc _ _,by simp⟩
 case round =>
  obtain ⟨k,v,hk,rfl,c0,c1,hf,hown,hb,hz⟩:=hrel;obtain ⟨va,vn,vc,rfl⟩:=own_form hown;have HO:=Lib.hid hown;have HB:=Lib.hid hb;have HF:=Lib.hid hf;have f1:=hf 1;have hne:some w1.heap.size≠(Value.slice va vn vc).ownBlock:=fun e=>by have:=(hown.lt _ e.symm).1;omega
  have HNE:=Lib.hid hne;clear hown hb hf hne;by_cases hlt:k<6
  ·go_wp2_with (at_builtin;refine wpList_push rfl _ _ 24 3 i0 (.int .i64 0) 1 8 3 rfl Try.underlying24 hi hz0 hz1 hz2 rfl (by decide) (by decide) rfl rfl HO.out (news:=[.int .i64 (-1)]) rfl (by simp [Value.oneCell']) (by omega) HB.out (by omega) (by omega) ?_;intro v' w3 hown' hbel' hsz' hgr;obtain ⟨ua,un,uc,rfl⟩:=own_form hown';have x0:=hgr.cell c0 HNE.out;have x1:=hgr.cell c1 HNE.out;have y1:w3.frozen? ⟨w1.heap.size,1,none⟩=false:=(World.frozen?_of_block (hgr.block w1.heap.size (by omega) HNE.out)).trans (HF.out 1);have HF3:Hid (∀ j,w3.frozen? ⟨w1.heap.size,j,none⟩=false):=Lib.hid (fun j=>(World.frozen?_of_block (hgr.block w1.heap.size (by omega) HNE.out)).trans (HF.out j));have HO':=Lib.hid hown';have HB':=Lib.hid hbel';have HZ':=Lib.hid hsz';clear hown' hbel' hgr hsz' c0 c1 f1)
   go_roundw
   case rel=>exact ⟨k+1,.slice ua un uc,by omega,by go_num,(World.cell?_setCell_other _ _ _ _ (by simp)).trans x0,World.cell?_setCell_same _ _ _ x1,fun j=>(World.frozen?_setCell _ _ _ _).trans (HF3.out j),ownsRow_setCell_below (by simpa [List.replicate_succ'] using HO'.out) (by simp) _,HB'.out.setCell (Nat.le_refl _) _,by simp;have:=HZ'.out;omega⟩
   case measure=>simp [intOf];omega
  ·obtain rfl:k=6:=by omega
   obtain ⟨fp1,g1,lo1,on1,fr1⟩:=IntS.of_owns HO.out;have d0:=keep_cell HB.out D0.out;have d1:=keep_cell HB.out D1.out;have y0:wr.frozen? ⟨w.heap.size,0,none⟩=false:=keep_free HB.out z0 (FZ.out 0);have y1:wr.frozen? ⟨w.heap.size,1,none⟩=false:=keep_free HB.out z0 (FZ.out 1);have G0':=Lib.hid (SlR.below intR_fits G0.out HB.out);have F0':=Lib.hid (Free.below F0.out HI0.out HB.out);have hBw:=Lib.hid (B1.out.trans (HB.out.mono (by omega)));have G1:=Lib.hid g1;have L1:=Lib.hid lo1;have O1:=Lib.hid on1;have R1:=Lib.hid fr1;clear g1 lo1 on1 fr1;go_wp2;have hsame:∀ (fq:List Nat),(∀ b,b∈fq->w.heap.size<b)->∀ {s t:Value},Same fq wr ((wr.setCell ⟨w.heap.size,0,none⟩ s).setCell ⟨w.heap.size,1,none⟩ t):=fun fq hq=>by
    intro s t b hb;have:=hq b hb;rw [Below.heap_setCell _ _ _ _ (by simp;omega),Below.heap_setCell _ _ _ _ (by simp;omega)]
   have h1:∀ b,b∈fp1->w.heap.size<b:=fun b hb=>by have:=L1.out b hb;omega
   exact bodyPost_ret (v:=.agg #[.slice a0 l0 k0,.slice va vn vc]) (by simp [results,Try.results92,go_sem,put2_0 _ _ d0,put2_1 _ _ d1]) rfl
    ⟨_,fp0,_,fp1,rfl,G0'.out.same intR_fits (hsame _ LO0.out) (by simp),G1.out.same intR_fits (hsame _ h1) (by simp),
     ⟨fun b hb=>(List.mem_append.1 hb).elim (fun hb=>Nat.le_of_lt (LO0.out b hb)) (fun hb=>Nat.le_of_lt (h1 b hb)),
      nodup_app ON0.out O1.out (fun b hb hb'=>by have:=HI0.out b hb;have:=L1.out b hb';omega),
      (F0'.out.same (hsame _ LO0.out)).app (R1.out.same (hsame _ h1))⟩,(hBw.out.setCell (Nat.le_refl _) _).setCell (Nat.le_refl _) _⟩
end Go.Proofs.Ytmcjklicepaiaaa
namespace Go.Proofs.Ytmcjklicepaiaaa
open Go
variable {P:Program} {ops:Array Oper} {Q:Exit->Act->World->Prop} {md:Region.Mode}
theorem via_step {i:Nat} {o:Oper} {K:Act->World->Prop} {a:Act} {w:World} (ho:ops[i]?=some o) (hg:o.guard=none) (hs:∀ cs b,o.op ≠ .select cs b) (hd:∀ d,o.dst=some d->d<a.tmps.size) (G:Value->World->Prop)
 (h:wpList P #[] (Via a o G) [o] a w) (hk:∀ v w',G v w'->K (a.put o.dst v) w'):wpOp P ops Q i K a w:=by
 refine wpOp_step ho fun K' hK'=>?_;rw [if_pos (by simp [Region.wanted,hg])];exact Oper.wp_mono (fun a' w' ⟨v,e,hG⟩=>by subst e;exact hK' _ _ (hk v w' hG)) (wp_via (Q:=Q) hg hs (fun _ _=>rfl) hd h)
theorem any_one {i:Nat} {o:Oper} {fuel:Nat} {listed:Array Bool} {a:Act} {w:World} (hr:Region.ready md ops listed=[i]) (ho:ops[i]?=some o) (hg:o.guard=none) (hs:∀ cs b,o.op ≠ .select cs b) (hd:∀ d,o.dst=some d->d<a.tmps.size) (G:Value->World->Prop)
 (h:wpList P #[] (Via a o G) [o] a w) (hk:∀ v w',G v w'->wpAny P md ops Q fuel (listed.setIfInBounds i true) (a.put o.dst v) w'):wpAny P md ops Q (fuel+1) listed a w :=
 wpAny_ready hr (by simp) fun j hj=>by
  obtain rfl:j=i:=by simpa using hj
  exact via_step ho hg hs hd G h hk
theorem any_two {i j:Nat} {o p:Oper} {fuel:Nat} {listed:Array Bool} {a:Act} {w:World} (hr:Region.ready md ops listed=[i,j]) (ho:ops[i]?=some o) (hp:ops[j]?=some p) (hg:o.guard=none) (hg':p.guard=none) (hs:∀ cs b,o.op ≠ .select cs b) (hs':∀ cs b,p.op ≠ .select cs b)
 (hd:∀ d,o.dst=some d->d<a.tmps.size) (hd':∀ d,p.dst=some d->d<a.tmps.size) (G G':Value->World->Prop)
 (h:wpList P #[] (Via a o G) [o] a w) (hk:∀ v w',G v w'->wpAny P md ops Q fuel (listed.setIfInBounds i true) (a.put o.dst v) w')
 (h':wpList P #[] (Via a p G') [p] a w) (hk':∀ v w',G' v w'->wpAny P md ops Q fuel (listed.setIfInBounds j true) (a.put p.dst v) w'):wpAny P md ops Q (fuel+1) listed a w :=
 wpAny_ready hr (by simp) fun q hq=>by
  rcases List.mem_cons.1 hq with rfl|hq
  ·exact via_step ho hg hs hd G h hk
  ·obtain rfl:q=j:=by simpa using hq
   exact via_step hp hg' hs' hd' G' h' hk'
end Go.Proofs.Ytmcjklicepaiaaa
