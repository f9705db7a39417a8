/-
 Texts of this claim laid together: MapM TOk7.
-/
import Derived.Maps.OwnSet
import Derived.Maps.OwnOps
import Derived.Test.YtmcjklicepaiaaaPk19
import Derived.DeepKeys4
import Derived.KernelRfl
set_option linter.unusedVariables false
set_option linter.unusedSimpArgs false
namespace Go.Proofs.Ytmcjklicepaiaaa
open Go.RowKit Go.Maps
variable {P:Program} {K E T:TypeId} {β:Type} {val:β->Value} {b n:Nat} {w w':World}
def IntM (P:Program) (K E:TypeId) (val:β->Value) (b n:Nat) (w:World) (f:β->Option Int):Prop :=
 ∃ D:DataW Unit,w.ownsMap P K (plainElem P E) b n D∧∀ x l,keyOf P K (val x)=some l->has D l=(f x).isSome∧D.atKey l (.lit (.int .i64 0)) = .lit (.int .i64 ((f x).getD 0))
def BoolM (P:Program) (K E:TypeId) (val:β->Value) (b n:Nat) (w:World) (f:β->Bool) (c:Nat):Prop :=
 ∃ D:DataW Unit,w.ownsMap P K (plainElem P E) b n D∧size D=c∧∀ x l,keyOf P K (val x)=some l->has D l=f x∧D.atKey l (.lit (.bool false)) = .lit (.bool (f x))
theorem has_nil (l:Lit):has (.map []:DataW Unit) l=false:=rfl
theorem IntM.made (w:World):IntM P K E val w.heap.size 0 (w.alloc (.map #[] 0)) (fun _=>none) :=
 ⟨_,World.ownsMap_made w P K _,fun x l _=>⟨rfl,atKey_of_not_has (has_nil l) _⟩⟩
theorem BoolM.made (w:World):BoolM P K E val w.heap.size 0 (w.alloc (.map #[] 0)) (fun _=>false) 0 :=
 ⟨_,World.ownsMap_made w P K _,rfl,fun x l _=>⟨rfl,atKey_of_not_has (has_nil l) _⟩⟩
theorem IntM.kept {f:β->Option Int} (h:IntM P K E val b n w f) {row:Option Nat} (hg:w.grownBy w' row) (hne:some b≠row):IntM P K E val b n w' f:=by
 obtain ⟨D,h1,h2⟩:=h;exact ⟨D,h1.kept hg hne,h2⟩
theorem BoolM.kept {f:β->Bool} {c:Nat} (h:BoolM P K E val b n w f c) {row:Option Nat} (hg:w.grownBy w' row) (hne:some b≠row):BoolM P K E val b n w' f c:=by
 obtain ⟨D,h1,h2⟩:=h;exact ⟨D,h1.kept hg hne,h2⟩
theorem grown_of_below (hb:Below w.heap.size w w'):w.grownBy w' none:=⟨hb.os,hb.tape,hb.output,hb.size,fun k hk _=>hb.block k hk⟩
theorem IntM.below {f:β->Option Int} (h:IntM P K E val b n w f) (hb:Below w.heap.size w w'):IntM P K E val b n w' f:=h.kept (grown_of_below hb) (by simp)
theorem BoolM.below {f:β->Bool} {c:Nat} (h:BoolM P K E val b n w f c) (hb:Below w.heap.size w w'):BoolM P K E val b n w' f c:=h.kept (grown_of_below hb) (by simp)
theorem IntM.lt {f:β->Option Int} (h:IntM P K E val b n w f):b<w.heap.size:=by obtain ⟨D,h1,_⟩:=h;exact h1.lt
theorem BoolM.lt {f:β->Bool} {c:Nat} (h:BoolM P K E val b n w f c):b<w.heap.size:=by obtain ⟨D,h1,_⟩:=h;exact h1.lt
theorem IntM.same {f:β->Option Int} (h:IntM P K E val b n w f) (hb:w'.heap[b]?=w.heap[b]?):IntM P K E val b n w' f:=by
 obtain ⟨D,⟨es,clock,h1,h3⟩,h2⟩:=h;exact ⟨D,⟨es,clock,hb.trans h1,h3⟩,h2⟩
theorem BoolM.same {f:β->Bool} {c:Nat} (h:BoolM P K E val b n w f c) (hb:w'.heap[b]?=w.heap[b]?):BoolM P K E val b n w' f c:=by
 obtain ⟨D,⟨es,clock,h1,h3⟩,h2⟩:=h;exact ⟨D,⟨es,clock,hb.trans h1,h3⟩,h2⟩
theorem plainElem_bool_inv {H:Type} (he:P.underlying E=some .bool) {v:Value} {z:DataW H × List MemPlace} (h:plainElem P E v=some z):∃ x,v = .bool x∧z=(.lit (.bool x),[]):=by
 unfold plainElem at h;rw [he] at h
 split at h
 ·cases h;exact ⟨_,rfl,rfl⟩
 ·rename_i e;cases e
 ·rename_i e;cases e
 ·cases h
section
variable {ops:Array Oper} {rest:List Oper} {o:Oper} {a:Act} {Q:Exit->Act->World->Prop}
theorem BoolM.look {f:β->Bool} {c:Nat} (hown:BoolM P K E val b n w f c) (t:TypeId) (L:Keyed P K) (ht:P.underlying t=some (.map K E)) (he:P.underlying E=some .bool) (hz:(zeroValue E).run P w = .ok (.bool false) w) (y:β) (l:Lit) (hkey:keyOf P K (val y)=some l) :
 (Instr.lookup t (.map (some b)) (val y) false).run P w = .ok (.bool (f y)) w:=by
 obtain ⟨D,h1,_,h2⟩:=hown;obtain ⟨h3,h4⟩:=h2 y l hkey;obtain ⟨v,ps,hrun,hv⟩:=h1.lookup L ht hz (plainElem_bool he false) hkey;obtain ⟨q,rfl,hq⟩:=plainElem_bool_inv he hv;rw [h4] at hq;simp only [Prod.mk.injEq,DataW.lit.injEq,Lit.bool.injEq] at hq;rw [hrun,hq.1]
theorem wpList_lookB {f:β->Bool} {c:Nat} (hg:o.guard=none) (m x:Operand) (t:TypeId) (hop:o.op=Op.lookup t m x false) (L:Keyed P K) (ht:P.underlying t=some (.map K E)) (he:P.underlying E=some .bool) (hz:(zeroValue E).run P w = .ok (.bool false) w)
 (hm:a.eval m = .map (some b)) (hown:BoolM P K E val b n w f c) (y:β) (l:Lit) (hx:a.eval x=val y) (hkey:keyOf P K (val y)=some l)
 (hK:wpList P ops Q rest (a.put o.dst (.bool (f y))) w):wpList P ops Q (o::rest) a w:=by
 refine wpList_plain hg fun K' hK'=>?_;have hrun:=hown.look t L ht he hz y l hkey;unfold Oper.wp;simp [execOp,hop,hm,hx,hrun,Result.andThen];exact hK' _ _ hK
theorem wpList_setB [DecidableEq β] {f:β->Bool} {c:Nat} (hg:o.guard=none) (m x v:Operand) (t:TypeId) (hop:o.op=Op.mapUpdate t m x v) (L:Keyed P K) (ht:P.underlying t=some (.map K E)) (he:P.underlying E=some .bool) (hinj:∀ x y,val x=val y->x=y)
 (hm:a.eval m = .map (some b)) (hown:BoolM P K E val b n w f c) (hn:n<maxLen) (y:β) (l:Lit) (hf:f y=false) (hx:a.eval x=val y) (hv:a.eval v = .bool true) (hkey:keyOf P K (val y)=some l)
 (hK:∀ w',BoolM P K E val b (n+1) w' (fun q=>decide (q=y) || f q) (c+1)->w.grownBy w' (some b)->wpList P ops Q rest (a.put o.dst undef) w'):wpList P ops Q (o::rest) a w:=by
 obtain ⟨D,h1,h0,h2⟩:=hown;refine wpList_mapUpdate_own w hg m x v t hop K E L ht _ b n D hm h1 hn _ _ l hx hv hkey _ [] (plainElem_bool he true) fun w' ho hgr=>hK w' ⟨_,ho,?_,fun q lq hq=>?_⟩ hgr
 ·have h3:=(h2 y l hkey).1;rw [hf] at h3;rw [size_put (h1.tidy L),h3,h0];rfl
 ·by_cases e:q=y
  ·subst e;obtain rfl:lq=l:=Option.some.inj (hq.symm.trans hkey);rw [has_put_same h1.isMap (L.key hkey),atKey_put_same h1.isMap (L.key hkey)];simp
  ·have hne:lq≠l:=fun e'=>e (hinj _ _ (L.inj (hq.trans (by rw [e'])) hkey));rw [has_put_other hne,atKey_put_other hne];simp only [decide_eq_false e,Bool.false_or];exact h2 q lq hq
theorem wpList_lenB {f:β->Bool} {c:Nat} (hg:o.guard=none) (m:Operand) (t:TypeId) (hop:o.op=Op.call { callee:=Callee.builtin Builtin.len,args := #[m],argTypes := #[t] }) (ht:P.underlying t=some (.map K E))
 (hm:a.eval m = .map (some b)) (hown:BoolM P K E val b n w f c) (hK:wpList P ops Q rest (a.put o.dst (.int .i64 c)) w):wpList P ops Q (o::rest) a w:=by
 obtain ⟨D,h1,h0,h2⟩:=hown;refine wpList_len_own w hg m t hop K E ht _ b n D hm h1 ?_;rw [h0];exact hK
end
end Go.Proofs.Ytmcjklicepaiaaa
namespace Go.Proofs.Ytmcjklicepaiaaa
open Go.RowKit Go.Maps Go.WideMaps
def keyV (p:Int × Int):Value:=.agg #[.int .i64 p.1,.int .i64 p.2]
def keyJ (j:Job):Int × Int:=(j.who,j.n)
theorem types_pos:∃ m,Try.prog.types.size=m+1:=by
 have h:0<Try.prog.types.size:=of_decide_eq_true (by kernel_rfl);exact ⟨Try.prog.types.size - 1,by omega⟩
theorem wf_small {z:Int} (h : -1000000<=z∧z<=1000000):(Lit.int .i64 z).wf=true:=WalkArith.wf_i64 (by omega)
theorem zero_bool (w:World):(zeroValue 4).run Try.prog w = .ok (.bool false) w:=by kernel_rfl
theorem jkKeyed:Keyed Try.prog 143 :=
 Keyed.of_law (deep_law_laid (by kernel_rfl) (m:=2) (by omega) (of_decide_eq_true (by kernel_rfl)) (by kernel_rfl) (by kernel_rfl))
theorem key_of2 {P:Program} {K I:TypeId} {f0 f1:Field} (hu:P.underlying K=some (.struct #[f0,f1])) (hk:P.keyType K=true) (hc:P.cellsOf K=2) (hi:P.underlying I=some (.int .i64)) (hc1:P.cellsOf I=1)
 (t0 : f0.type = I) (t1 : f1.type = I) (o0 : f0.offset = 0) (o1 : f1.offset = 1) (n0 : f0.name ≠ "_") (n1 : f1.name ≠ "_") (hs : ∃ m, P.types.size = m + 1)
 {a b:Int} (w0:(Lit.int .i64 a).wf=true) (w1:(Lit.int .i64 b).wf=true):∃ l,keyOf P K (.agg #[.int .i64 a,.int .i64 b])=some l:=by
 obtain ⟨m,hm⟩:=hs;have hl:P.keyLits (P.types.size+1) K [.int .i64 a,.int .i64 b]=some [.int .i64 a,.int .i64 b]:=by
  rw [hm];simp [Program.keyLits,hu,hc,t0,t1,o0,o1,n0,n1,hi,hc1,w0,w1]
 have hf:(Value.agg #[.int .i64 a,.int .i64 b]).formed P K=true:=by simp [Value.formed,hu,hc]
 refine ⟨.string (keyBytes [.int .i64 a,.int .i64 b]),?_⟩;unfold keyOf;rw [hu];simp only [hk,hf,Bool.and_self,if_true,Value.cells];rw [hl];rfl
theorem jk_key (p:Int × Int) (h1 : -1000000<=p.1∧p.1<=1000000) (h2 : -1000000<=p.2∧p.2<=1000000):∃ l,keyOf Try.prog 143 (keyV p)=some l :=
 key_of2 Try.underlying143 (by kernel_rfl) (by kernel_rfl) Try.underlying3 (by kernel_rfl) rfl rfl rfl rfl (by decide) (by decide) types_pos (wf_small h1) (wf_small h2)
theorem keyV_inj:∀ x y:Int × Int,keyV x=keyV y->x=y:=by
 intro x y h;obtain ⟨a,b⟩:=x;obtain ⟨d,e⟩:=y;simp only [keyV,Value.agg.injEq,Array.mk.injEq,List.cons.injEq,Value.int.injEq,true_and,and_true] at h;obtain ⟨rfl,rfl⟩:=h;rfl
theorem isJob_key (p:Int × Int) (x:Job):isJob p.1 p.2 x=decide (p=keyJ x):=by
 unfold isJob keyJ;rw [Bool.eq_iff_iff];simp only [Bool.and_eq_true,beq_iff_eq,decide_eq_true_eq,Prod.ext_iff];exact ⟨fun ⟨a,b⟩=>⟨a.symm,b.symm⟩,fun ⟨a,b⟩=>⟨a.symm,b.symm⟩⟩
def metB (l:List Job) (p:Int × Int):Bool:=l.any (isJob p.1 p.2)
theorem metB_snoc (l:List Job) (x:Job):metB (l++[x])=fun q=>decide (q=keyJ x) || metB l q:=by
 funext q
 unfold metB;rw [List.any_append,List.any_cons,List.any_nil,Bool.or_false,isJob_key,Bool.or_comm]
def GoodSo (c:Bus) (asked:List Int) (l:List Job):Prop:=(∀ j,j∈l->jobFit asked j=true)∧fresh l=true
theorem GoodSo.nil (c:Bus) (asked:List Int):GoodSo c asked []:=⟨fun j h=>by simp at h,(fresh_iff _).2 List.Pairwise.nil⟩
theorem GoodSo.snoc {c:Bus} {asked:List Int} {l:List Job} {x:Job} (h:GoodSo c asked l) (hf:jobFit asked x=true) (hm:metB l (keyJ x)=false):GoodSo c asked (l++[x]):=by
 refine ⟨fun j hj=>?_,?_⟩
 ·rcases List.mem_append.1 hj with hj|hj
  ·exact h.1 j hj
  ·rw [List.mem_singleton] at hj;subst hj;exact hf
 ·rw [fresh_iff,List.pairwise_append];refine ⟨(fresh_iff _).1 h.2,List.pairwise_singleton _ _,fun a ha b hb=>?_⟩;rw [List.mem_singleton] at hb;subst hb;exact (any_false_iff.1 hm) a ha
theorem GoodSo.few {c:Bus} {asked:List Int} {l:List Job} (hc:AskOk c asked) (h:GoodSo c asked l):l.length<=36:=few_jobs hc h.1 h.2
theorem not_fresh {a b:List Job} {x:Job} (hm:metB a (keyJ x)=true):fresh (a++x::b)=false:=by
 cases q:fresh (a++x::b) with
 | false=>rfl
 | true =>
  rw [fresh_iff,List.pairwise_append] at q;unfold metB at hm;rw [List.any_eq_true] at hm;obtain ⟨y,hy,he⟩:=hm;have:=q.2.2 y hy x (by simp);unfold keyJ at he;rw [this] at he;cases he
end Go.Proofs.Ytmcjklicepaiaaa
