/-
 Texts of this claim laid together: Frm2 New Ints Ints2 Uni Adr.
-/
import Derived.Test.YtmcjklicepaiaaaPk04
import Derived.Test.YtmcjklicepaiaaaPk05
import Derived.Test.YtmcjklicepaiaaaProg
import Derived.Deep.QuietTactic
import Derived.BigQuiet
import Derived.OwnWalk
import Derived.Laws.OwnMore
import Derived.WalkSmall
set_option linter.unusedVariables false
set_option linter.unusedSimpArgs false
namespace Go.Proofs.Ytmcjklicepaiaaa
open Go Go.RowKit Go.WideShapes
variable {P:Program} {ops:Array Oper} {Q:Exit->Act->World->Prop}
theorem Owes.k0 {T:Nat->List Nat} {R:Nat->Value->World->Prop} {I:Nat->World->Prop} {a0:Act} {i:Nat} {o:Oper} (n:Nat) (l:List (Nat × Value))
 (ho:ops[i]?=some o:=by exact rfl) (hg:o.guard=none:=by exact rfl) (hs:∀ cs b,o.op ≠ .select cs b:=by exact fun _ _ h=>by cases h) (hI1:∀ m w,I m w->I (m+1) w:=by exact fun _ _ h=>h) (hd:∀ d,o.dst=some d->d<n:=by exact fun d e=>by cases e;decide)
 (he:∀ u:Nat->Value,o.op.operands.toList.map (rho ops a0 u i)=o.op.operands.toList.map (Act.eval ⟨(frm n (l)).toArray,[]⟩):=by exact fun _=>rfl)
 (h:∀ w,wpList P #[] (Via ⟨(frm n (l)).toArray,[]⟩ o (fun v w'=>R i v w'∧w'=w)) [o] ⟨(frm n (l)).toArray,[]⟩ w:=by intro w;(try clear hst);dsimp only [frm,List.foldl,List.replicate,List.set];go_wp2;exact ⟨rfl,_,rfl,rfl,rfl⟩):Owes P ops Q T R I a0 i :=
 Owes.q n (fun u=>l) (fun u w hI hR=>h w) ho hg hs hI1 hd he
theorem Owes.k1 {T:Nat->List Nat} {R:Nat->Value->World->Prop} {I:Nat->World->Prop} {a0:Act} {i:Nat} {o:Oper} (n:Nat) (t j:Nat) {x:Value} (l:List (Nat × Value):=[])
 (ho:ops[i]?=some o:=by exact rfl) (hg:o.guard=none:=by exact rfl) (hs:∀ cs b,o.op ≠ .select cs b:=by exact fun _ _ h=>by cases h) (hI1:∀ m w,I m w->I (m+1) w:=by exact fun _ _ h=>h) (hd:∀ d,o.dst=some d->d<n:=by exact fun d e=>by cases e;decide) (hj:∀ v w,R j v w->v=x:=by exact fun _ _ h=>h) (mj:j∈T i:=by decide)
 (he:∀ u:Nat->Value,o.op.operands.toList.map (rho ops a0 u i)=o.op.operands.toList.map (Act.eval ⟨(frm n ((t,u j)::l)).toArray,[]⟩):=by exact fun _=>rfl)
 (h:∀ w,wpList P #[] (Via ⟨(frm n ((t,x)::l)).toArray,[]⟩ o (fun v w'=>R i v w'∧w'=w)) [o] ⟨(frm n ((t,x)::l)).toArray,[]⟩ w:=by intro w;(try clear hst);dsimp only [frm,List.foldl,List.replicate,List.set];go_wp2;exact ⟨rfl,_,rfl,rfl,rfl⟩):Owes P ops Q T R I a0 i :=
 Owes.q n (fun u=>(t,u j)::l) (fun u w hI hR=>by rw [hj _ _ (hR j mj)];exact h w) ho hg hs hI1 hd he
theorem Owes.k2 {T:Nat->List Nat} {R:Nat->Value->World->Prop} {I:Nat->World->Prop} {a0:Act} {i:Nat} {o:Oper} (n:Nat) (t j s k:Nat) {x z:Value} (l:List (Nat × Value):=[])
 (ho:ops[i]?=some o:=by exact rfl) (hg:o.guard=none:=by exact rfl) (hs:∀ cs b,o.op ≠ .select cs b:=by exact fun _ _ h=>by cases h) (hI1:∀ m w,I m w->I (m+1) w:=by exact fun _ _ h=>h) (hd:∀ d,o.dst=some d->d<n:=by exact fun d e=>by cases e;decide) (hj:∀ v w,R j v w->v=x:=by exact fun _ _ h=>h) (mj:j∈T i:=by decide) (hk:∀ v w,R k v w->v=z:=by exact fun _ _ h=>h) (mk:k∈T i:=by decide)
 (he:∀ u:Nat->Value,o.op.operands.toList.map (rho ops a0 u i)=o.op.operands.toList.map (Act.eval ⟨(frm n ((t,u j)::(s,u k)::l)).toArray,[]⟩):=by exact fun _=>rfl)
 (h:∀ w,wpList P #[] (Via ⟨(frm n ((t,x)::(s,z)::l)).toArray,[]⟩ o (fun v w'=>R i v w'∧w'=w)) [o] ⟨(frm n ((t,x)::(s,z)::l)).toArray,[]⟩ w:=by intro w;(try clear hst);dsimp only [frm,List.foldl,List.replicate,List.set];go_wp2;exact ⟨rfl,_,rfl,rfl,rfl⟩):Owes P ops Q T R I a0 i :=
 Owes.q n (fun u=>(t,u j)::(s,u k)::l) (fun u w hI hR=>by rw [hj _ _ (hR j mj),hk _ _ (hR k mk)];exact h w) ho hg hs hI1 hd he
theorem Owes.c1 {T:Nat->List Nat} {R:Nat->Value->World->Prop} {I:Nat->World->Prop} {a0:Act} {i:Nat} {o:Oper} (n:Nat) (t j:Nat) {x:Value} {w0:World} {pb po:Nat} {y:Value} (c:w0.cell? ⟨pb,po,none⟩=some y) (l:List (Nat × Value):=[])
 (ho:ops[i]?=some o:=by exact rfl) (hg:o.guard=none:=by exact rfl) (hs:∀ cs b,o.op ≠ .select cs b:=by exact fun _ _ h=>by cases h) (hI1:∀ m w,I m w->I (m+1) w:=by exact fun _ _ h=>h) (hd:∀ d,o.dst=some d->d<n:=by exact fun d e=>by cases e;decide) (hj:∀ v w,R j v w->v=x:=by exact fun _ _ h=>h) (mj:j∈T i:=by decide) (hb:∀ m w',I m w'->Below w0.heap.size w0 w':=by exact fun _ _ h=>h)
 (he:∀ u:Nat->Value,o.op.operands.toList.map (rho ops a0 u i)=o.op.operands.toList.map (Act.eval ⟨(frm n ((t,u j)::l)).toArray,[]⟩):=by exact fun _=>rfl)
 (h:∀ w,w.cell? ⟨pb,po,none⟩=some y->wpList P #[] (Via ⟨(frm n ((t,x)::l)).toArray,[]⟩ o (fun v w'=>R i v w'∧w'=w)) [o] ⟨(frm n ((t,x)::l)).toArray,[]⟩ w:=by intro w k0;(try clear hst);dsimp only [frm,List.foldl,List.replicate,List.set];go_wp2;exact ⟨rfl,_,rfl,rfl,rfl⟩):Owes P ops Q T R I a0 i :=
 Owes.q n (fun u=>(t,u j)::l) (fun u w hI hR=>by rw [hj _ _ (hR j mj)];exact h w (keep_cell (hb _ _ hI.choose_spec) c)) ho hg hs hI1 hd he
theorem Owes.d1 {T:Nat->List Nat} {R:Nat->Value->World->Prop} {I:Nat->World->Prop} {a0:Act} {i:Nat} {o:Oper} (n:Nat) {w0:World} {pb po:Nat} {y:Value} (c:w0.cell? ⟨pb,po,none⟩=some y) (l:List (Nat × Value))
 (ho:ops[i]?=some o:=by exact rfl) (hg:o.guard=none:=by exact rfl) (hs:∀ cs b,o.op ≠ .select cs b:=by exact fun _ _ h=>by cases h) (hI1:∀ m w,I m w->I (m+1) w:=by exact fun _ _ h=>h) (hd:∀ d,o.dst=some d->d<n:=by exact fun d e=>by cases e;decide) (hb:∀ m w',I m w'->Below w0.heap.size w0 w':=by exact fun _ _ h=>h)
 (he:∀ u:Nat->Value,o.op.operands.toList.map (rho ops a0 u i)=o.op.operands.toList.map (Act.eval ⟨(frm n (l)).toArray,[]⟩):=by exact fun _=>rfl)
 (h:∀ w,w.cell? ⟨pb,po,none⟩=some y->wpList P #[] (Via ⟨(frm n (l)).toArray,[]⟩ o (fun v w'=>R i v w'∧w'=w)) [o] ⟨(frm n (l)).toArray,[]⟩ w:=by intro w k0;(try clear hst);dsimp only [frm,List.foldl,List.replicate,List.set];go_wp2;exact ⟨rfl,_,rfl,rfl,rfl⟩):Owes P ops Q T R I a0 i :=
 Owes.q n (fun u=>l) (fun u w hI hR=>h w (keep_cell (hb _ _ hI.choose_spec) c)) ho hg hs hI1 hd he
theorem Owes.k0G {T:Nat->List Nat} {R:Nat->Value->World->Prop} {I:Nat->World->Prop} {a0:Act} {i:Nat} {o o':Oper} (n:Nat) (l:List (Nat × Value))
 (ho:ops[i]?=some o:=by exact rfl) (ho':o'={ o with guard:=none }:=by exact rfl) (hs:∀ cs b,o.op ≠ .select cs b:=by exact fun _ _ h=>by cases h) (hI1:∀ m w,I m w->I (m+1) w:=by exact fun _ _ h=>h) (hd:∀ d,o'.dst=some d->d<n:=by exact fun d e=>by cases e;decide)
 (he:∀ u:Nat->Value,o'.op.operands.toList.map (rho ops a0 u i)=o'.op.operands.toList.map (Act.eval ⟨(frm n (l)).toArray,[]⟩):=by exact fun _=>rfl)
 (h:∀ w,wpList P #[] (Via ⟨(frm n (l)).toArray,[]⟩ o' (fun v w'=>R i v w'∧w'=w)) [o'] ⟨(frm n (l)).toArray,[]⟩ w:=by intro w;(try clear hst);dsimp only [frm,List.foldl,List.replicate,List.set];go_wp2;exact ⟨rfl,_,rfl,rfl,rfl⟩):Owes P ops Q T R I a0 i :=
 Owes.qG n (fun u=>l) (fun u w hI hR=>h w) ho ho' hs hI1 hd he
theorem Owes.k1G {T:Nat->List Nat} {R:Nat->Value->World->Prop} {I:Nat->World->Prop} {a0:Act} {i:Nat} {o o':Oper} (n:Nat) (t j:Nat) {x:Value} (l:List (Nat × Value):=[])
 (ho:ops[i]?=some o:=by exact rfl) (ho':o'={ o with guard:=none }:=by exact rfl) (hs:∀ cs b,o.op ≠ .select cs b:=by exact fun _ _ h=>by cases h) (hI1:∀ m w,I m w->I (m+1) w:=by exact fun _ _ h=>h) (hd:∀ d,o'.dst=some d->d<n:=by exact fun d e=>by cases e;decide) (hj:∀ v w,R j v w->v=x:=by exact fun _ _ h=>h) (mj:j∈T i:=by decide)
 (he:∀ u:Nat->Value,o'.op.operands.toList.map (rho ops a0 u i)=o'.op.operands.toList.map (Act.eval ⟨(frm n ((t,u j)::l)).toArray,[]⟩):=by exact fun _=>rfl)
 (h:∀ w,wpList P #[] (Via ⟨(frm n ((t,x)::l)).toArray,[]⟩ o' (fun v w'=>R i v w'∧w'=w)) [o'] ⟨(frm n ((t,x)::l)).toArray,[]⟩ w:=by intro w;(try clear hst);dsimp only [frm,List.foldl,List.replicate,List.set];go_wp2;exact ⟨rfl,_,rfl,rfl,rfl⟩):Owes P ops Q T R I a0 i :=
 Owes.qG n (fun u=>(t,u j)::l) (fun u w hI hR=>by rw [hj _ _ (hR j mj)];exact h w) ho ho' hs hI1 hd he
theorem Owes.k2G {T:Nat->List Nat} {R:Nat->Value->World->Prop} {I:Nat->World->Prop} {a0:Act} {i:Nat} {o o':Oper} (n:Nat) (t j s k:Nat) {x z:Value} (l:List (Nat × Value):=[])
 (ho:ops[i]?=some o:=by exact rfl) (ho':o'={ o with guard:=none }:=by exact rfl) (hs:∀ cs b,o.op ≠ .select cs b:=by exact fun _ _ h=>by cases h) (hI1:∀ m w,I m w->I (m+1) w:=by exact fun _ _ h=>h) (hd:∀ d,o'.dst=some d->d<n:=by exact fun d e=>by cases e;decide) (hj:∀ v w,R j v w->v=x:=by exact fun _ _ h=>h) (mj:j∈T i:=by decide) (hk:∀ v w,R k v w->v=z:=by exact fun _ _ h=>h) (mk:k∈T i:=by decide)
 (he:∀ u:Nat->Value,o'.op.operands.toList.map (rho ops a0 u i)=o'.op.operands.toList.map (Act.eval ⟨(frm n ((t,u j)::(s,u k)::l)).toArray,[]⟩):=by exact fun _=>rfl)
 (h:∀ w,wpList P #[] (Via ⟨(frm n ((t,x)::(s,z)::l)).toArray,[]⟩ o' (fun v w'=>R i v w'∧w'=w)) [o'] ⟨(frm n ((t,x)::(s,z)::l)).toArray,[]⟩ w:=by intro w;(try clear hst);dsimp only [frm,List.foldl,List.replicate,List.set];go_wp2;exact ⟨rfl,_,rfl,rfl,rfl⟩):Owes P ops Q T R I a0 i :=
 Owes.qG n (fun u=>(t,u j)::(s,u k)::l) (fun u w hI hR=>by rw [hj _ _ (hR j mj),hk _ _ (hR k mk)];exact h w) ho ho' hs hI1 hd he
theorem Owes.c1G {T:Nat->List Nat} {R:Nat->Value->World->Prop} {I:Nat->World->Prop} {a0:Act} {i:Nat} {o o':Oper} (n:Nat) (t j:Nat) {x:Value} {w0:World} {pb po:Nat} {y:Value} (c:w0.cell? ⟨pb,po,none⟩=some y) (l:List (Nat × Value):=[])
 (ho:ops[i]?=some o:=by exact rfl) (ho':o'={ o with guard:=none }:=by exact rfl) (hs:∀ cs b,o.op ≠ .select cs b:=by exact fun _ _ h=>by cases h) (hI1:∀ m w,I m w->I (m+1) w:=by exact fun _ _ h=>h) (hd:∀ d,o'.dst=some d->d<n:=by exact fun d e=>by cases e;decide) (hj:∀ v w,R j v w->v=x:=by exact fun _ _ h=>h) (mj:j∈T i:=by decide) (hb:∀ m w',I m w'->Below w0.heap.size w0 w':=by exact fun _ _ h=>h)
 (he:∀ u:Nat->Value,o'.op.operands.toList.map (rho ops a0 u i)=o'.op.operands.toList.map (Act.eval ⟨(frm n ((t,u j)::l)).toArray,[]⟩):=by exact fun _=>rfl)
 (h:∀ w,w.cell? ⟨pb,po,none⟩=some y->wpList P #[] (Via ⟨(frm n ((t,x)::l)).toArray,[]⟩ o' (fun v w'=>R i v w'∧w'=w)) [o'] ⟨(frm n ((t,x)::l)).toArray,[]⟩ w:=by intro w k0;(try clear hst);dsimp only [frm,List.foldl,List.replicate,List.set];go_wp2;exact ⟨rfl,_,rfl,rfl,rfl⟩):Owes P ops Q T R I a0 i :=
 Owes.qG n (fun u=>(t,u j)::l) (fun u w hI hR=>by rw [hj _ _ (hR j mj)];exact h w (keep_cell (hb _ _ hI.choose_spec) c)) ho ho' hs hI1 hd he
theorem wp_tailH {id:Nat} {L:List Value} {df:List Deferred} {w:World} {FL:List Fact} (_:∀ F,F∈FL->Stable [] F) (tb:List (List Nat)) (I:Nat->World->Prop) (size n k:Nat) (ds:List (Option Tmp)) (tl:List Oper) (G:List (Nat × Bool)) (h0:I 0 w.drew) (hop:AllLt k (fun i=>Owes P ops Q (fun i=>tb.getD i []) (facts FL) I ⟨L.toArray,df⟩ i)) (hend:∀ (u:Nat->Value) (w':World),I k w'->(∀ i,i<k->facts FL i (u i) w')->wpList P ops Q tl ⟨(setAll ds u 0 L).toArray,df⟩ w')
 (hm:P.follows .mixedOrders=true:=by kernel_rfl) (hsize:L.length=size:=by exact rfl) (hn:ops.size=n:=by exact rfl) (hk:k<=n:=by decide) (hd:(ops.toList.take k).map (·.dst)=ds:=by exact rfl) (htl:ops.toList.drop k=tl:=by exact rfl) (hok:okRegionG ops (fun i=>tb.getD i []) size=true:=by kernel_rfl) (hot:okTail ops (fun i=>tb.getD i []) k=true:=by kernel_rfl)
 (hG:okGuards ops k G=true:=by kernel_rfl) (hGR:∀ p,p∈G->∀ v w,facts FL p.1 v w->v = .bool p.2:=by (try simp only [List.forall_mem_cons]);and_intros<;>first|(intro v w h;exact h)|(intro _ h;simp at h)) :
 (Code.region id ops true).wp P Q ⟨L.toArray,df⟩ w :=
 wp_region_tail hm (fun i=>tb.getD i []) (facts FL) I size n k ds tl hsize hn hk hd htl hok hot G hG (fun g b h=>hGR (g,b) h) h0 (all_lt hop) hend
theorem wp_skipH {id:Nat} {L:List Value} {df:List Deferred} {w:World} {FL:List Fact} (_:∀ F,F∈FL->Stable [] F) (tb:List (List Nat)) (I:Nat->World->Prop) (size n k:Nat) (ds:List (Option Tmp)) (tl:List Oper) (S:List Nat) (G:List (Nat × Bool)) (h0:I 0 w.drew) (hop:AllLt k (fun i=>i∈S∨Owes P ops Q (fun i=>tb.getD i []) (facts FL) I ⟨L.toArray,df⟩ i)) (hend:∀ (u:Nat->Value) (w':World),I k w'->(∀ i,i<k->facts FL i (u i) w')->wpList P ops Q tl ⟨(setAll ds u 0 L).toArray,df⟩ w')
 (hm:P.follows .mixedOrders=true:=by kernel_rfl) (hsize:L.length=size:=by exact rfl) (hn:ops.size=n:=by exact rfl) (hk:k<=n:=by decide) (hd:(ops.toList.take k).map (·.dst)=ds:=by exact rfl) (htl:ops.toList.drop k=tl:=by exact rfl) (hok:okRegionG ops (fun i=>tb.getD i []) size=true:=by kernel_rfl) (hot:okTail ops (fun i=>tb.getD i []) k=true:=by kernel_rfl)
 (hG:okSkips ops k S G=true:=by kernel_rfl) (hGR:∀ p,p∈G->∀ v w,facts FL p.1 v w->v = .bool p.2:=by (try simp only [List.forall_mem_cons]);and_intros<;>first|(intro v w h;exact h)|(intro _ h;simp at h)) (hS:∀ i,i∈S->∀ w,facts FL i undef w:=by (try simp only [List.forall_mem_cons]);and_intros<;>first|(intro w;rfl)|(intro _ h;simp at h)) (hIm:∀ m w,I m w->I (m+1) w:=by exact fun _ _ h=>h) :
 (Code.region id ops true).wp P Q ⟨L.toArray,df⟩ w :=
 wp_region_skip hm (fun i=>tb.getD i []) (facts FL) I size n k ds tl hsize hn hk hd htl hok hot S G hG (fun g b h=>hGR (g,b) h) hS hIm h0 (all_lt hop) hend
theorem wp_skip2H {id:Nat} {L:List Value} {df:List Deferred} {w:World} {FL:List Fact} (_:∀ F,F∈FL->Stable [] F) (tb:List (List Nat)) (I:Nat->World->Prop) (size n k:Nat) (ds:List (Option Tmp)) (tl:List Oper) (S:List Nat) (G:List (Nat × Bool)) (h0:I 0 w.drew) (hop:AllLt k (fun i=>i∈S∨Owes P ops Q (fun i=>tb.getD i []) (facts FL) I ⟨L.toArray,df⟩ i)) (hend:∀ (u:Nat->Value) (w':World),I k w'->(∀ i,i<k->facts FL i (u i) w')->wpList P ops Q tl ⟨(setAll ds u 0 L).toArray,df⟩ w')
 (hm:P.follows .mixedOrders=true:=by kernel_rfl) (hsize:L.length=size:=by exact rfl) (hn:ops.size=n:=by exact rfl) (hk:k<=n:=by decide) (hd:(ops.toList.take k).map (·.dst)=ds:=by exact rfl) (htl:ops.toList.drop k=tl:=by exact rfl) (hok:okRegionG ops (fun i=>tb.getD i []) size=true:=by kernel_rfl) (hot:okTail ops (fun i=>tb.getD i []) k=true:=by kernel_rfl)
 (hG:okSkips2 ops k S G=true:=by kernel_rfl) (hGR:∀ p,p∈G->∀ v w,facts FL p.1 v w->v = .bool p.2:=by (try simp only [List.forall_mem_cons]);and_intros<;>first|(intro v w h;exact h)|(intro _ h;simp at h)) (hS:∀ i,i∈S->∀ w,facts FL i undef w:=by (try simp only [List.forall_mem_cons]);and_intros<;>first|(intro w;rfl)|(intro _ h;simp at h)) (hSu:∀ i,i∈S->∀ v w,facts FL i v w->v=undef:=by (try simp only [List.forall_mem_cons]);and_intros<;>first|(intro v w h;exact h)|(intro _ h;simp at h)) (hIm:∀ m w,I m w->I (m+1) w:=by exact fun _ _ h=>h) :
 (Code.region id ops true).wp P Q ⟨L.toArray,df⟩ w :=
 wp_region_skip2 hm (fun i=>tb.getD i []) (facts FL) I size n k ds tl hsize hn hk hd htl hok hot S G hG (fun g b h=>hGR (g,b) h) hS hSu hIm h0 (all_lt hop) hend
theorem st_cons {F:Fact} {FL:List Fact} (h:Stable [] F) (t:∀ G,G∈FL->Stable [] G):∀ G,G∈F::FL->Stable [] G:=List.forall_mem_cons.2 ⟨h,t⟩
theorem st_eq {v:Value} {FL:List Fact} (t:∀ G,G∈FL->Stable [] G):∀ G,G∈FEq v::FL->Stable [] G:=st_cons (stEq _ _) t
theorem st_nil:∀ G:Fact,G∈[]->Stable [] G:=fun _ h=>by simp at h
end Go.Proofs.Ytmcjklicepaiaaa
namespace Go.Proofs.Ytmcjklicepaiaaa
theorem nodup_app {p q:List Nat} (h1:p.Nodup) (h2:q.Nodup) (h:∀ b,b∈p->b∉q):(p++q).Nodup :=
 List.nodup_append.2 ⟨h1,h2,fun a ha b hb e=>h a ha (e ▸ hb)⟩
theorem Free.app {p q:List Nat} {w:World} (h1:Free p w) (h2:Free q w):Free (p++q) w:=fun b hb=>(List.mem_append.1 hb).elim (h1 b) (h2 b)
theorem all_app {p q:List Nat} {T:Nat->Prop} (h1:∀ b,b∈p->T b) (h2:∀ b,b∈q->T b):∀ b,b∈p++q->T b:=fun b hb=>(List.mem_append.1 hb).elim (h1 b) (h2 b)
end Go.Proofs.Ytmcjklicepaiaaa
namespace Go.Proofs.Ytmcjklicepaiaaa
open Go.RowKit
end Go.Proofs.Ytmcjklicepaiaaa
namespace Go.Proofs.Ytmcjklicepaiaaa
open Go.RowKit
theorem infoInt:(Try.prog.info? 3).map (fun i=>(i.zero,i.size,i.bytes))=some (some (.int .i64 0),1,8):=by kernel_rfl
def part (l:List Int) (k:Nat):List Value:=(l.take k).map (Value.int .i64)++List.replicate (l.length - k) (.int .i64 0)
def marks (k:Int) (n:Nat):List Int:=(List.range n).map fun (i:Nat)=>k+(i:Int)
end Go.Proofs.Ytmcjklicepaiaaa
namespace Go.Proofs.Ytmcjklicepaiaaa
open Go.RowKit
def SzP (left:Int) (S:Prop) (w:World) (e:Ending) (w':World):Prop:=∃ z:Int,e = .returned (.int .i64 z)∧z<=left∧(0<=z->S)∧Below w.heap.size w w'
theorem SzP.neg {left:Int} {S:Prop} {w w':World} (h0:0<=left) (hb:Below w.heap.size w w'):SzP left S w (.returned (.int .i64 (-1))) w':=⟨-1,rfl,by omega,fun h=>absurd h (by omega),hb⟩
theorem SzP.pos {left z:Int} {S:Prop} {w w':World} (hz:z<=left) (hS:S) (hb:Below w.heap.size w w'):SzP left S w (.returned (.int .i64 z)) w':=⟨z,rfl,hz,fun _=>hS,hb⟩
theorem SzP.exact {left:Int} {n:Nat} {S:Prop} {w w':World} {e:Ending} (h0:0<=left) (h1:left<=1048576) (he:e = .returned (.int .i64 (szR left n))) (hS:n<=1048576->S) (hb:Below w.heap.size w w'):SzP left S w e w':=by
 refine ⟨_,he,?_,?_,hb⟩
 ·unfold szR;split<;>omega
 ·intro h;refine hS ?_;unfold szR at h;split at h<;>omega
/-! ### A row that is filled -/
def putCells (g:Nat):World->Nat->List Value->World
 | w,_,[]=>w
 | w,i,c::cs=>putCells g (w.setCell ⟨g,i,none⟩ c) (i+1) cs
theorem putCells_below {g B:Nat} {a:World} (hg:B<=g) (cs:List Value):∀ (w:World) (i:Nat),Below B a w->Below B a (putCells g w i cs):=by
 induction cs with
 | nil=>intro w i h;exact h
 | cons c cs ih=>intro w i h;exact ih _ _ (h.setCell (p:=⟨g,i,none⟩) hg _)
theorem putCells_block {g b:Nat} (hg:b≠g) (cs:List Value):∀ (w:World) (i:Nat),(putCells g w i cs).heap[b]?=w.heap[b]?:=by
 induction cs with
 | nil=>intro w i;rfl
 | cons c cs ih=>intro w i;rw [putCells,ih];exact Below.heap_setCell _ _ _ _ hg
theorem putCells_size {g:Nat} (cs:List Value):∀ (w:World) (i:Nat),(putCells g w i cs).heap.size=w.heap.size:=by
 induction cs with
 | nil=>intro w i;rfl
 | cons c cs ih=>intro w i;rw [putCells,ih];simp
theorem putCells_owns {base g n cap size:Nat} {e:TypeId} (cs:List Value):∀ (w:World) (i:Nat) (xs:List Value),w.ownsRow base e size (.slice (some ⟨g,0,none⟩) n cap) n xs->(putCells g w i cs).ownsRow base e size (.slice (some ⟨g,0,none⟩) n cap) n (putRow xs i cs):=by
 induction cs with
 | nil=>intro w i xs h;exact h
 | cons c cs ih=>intro w i xs h;exact ih _ _ _ (h.stored i c).1
def Part {α:Type} (K:Nat) (R:Pr α) (e:TypeId) (g n:Nat) (w:World) (l:List α) (k:Nat):Prop :=
 ∃ (xs:List Value) (fps:List (List Nat)),w.ownsRow g e K (.slice (some ⟨g,0,none⟩) n n) n xs∧fps.length=k ∧
  (∀ i (h:i<l.length) (h':i<fps.length),∃ cs,R w l[i] cs fps[i]∧∀ j (hj:j<cs.length),xs[i*K+j]?=some cs[j]) ∧
  (∀ b,b∈fps.flatten->g<b∧b<w.heap.size)∧fps.flatten.Nodup∧Free fps.flatten w
theorem Part.start {α:Type} {K:Nat} {R:Pr α} {e:TypeId} {g n:Nat} {w:World} {l:List α} {xs:List Value} (h:w.ownsRow g e K (.slice (some ⟨g,0,none⟩) n n) n xs):Part K R e g n w l 0 :=
 ⟨xs,[],h,rfl,fun i _ h'=>absurd h' (by simp),by simp,by simp,fun b hb=>by simp at hb⟩
theorem Part.below {α:Type} {K:Nat} {R:Pr α} (F:Fits K R) {e:TypeId} {g n:Nat} {w w':World} {l:List α} {k:Nat} (hk:k<=l.length) (h:Part K R e g n w l k) (hb:Below w.heap.size w w'):Part K R e g n w' l k:=by
 obtain ⟨xs,fps,h1,h2,h3,h4,h5,h6⟩:=h;refine ⟨xs,fps,h1.kept (row:=none) ⟨hb.os,hb.tape,hb.output,hb.size,fun q hq _=>hb.block q hq⟩ (.inr (by simp [Value.ownBlock])),h2,fun i h h'=>?_,fun b hb'=>⟨(h4 b hb').1,by have:=(h4 b hb').2;have:=hb.size;omega⟩,h5,h6.below (fun b hb'=>(h4 b hb').2) hb⟩;obtain ⟨cs,hR,hc⟩:=h3 i h h';exact ⟨cs,F.below hR hb,hc⟩
theorem Part.lt {α:Type} {K:Nat} {R:Pr α} {e:TypeId} {g n:Nat} {w:World} {l:List α} {k:Nat} (h:Part K R e g n w l k):g<w.heap.size:=by
 obtain ⟨xs,fps,h1,_⟩:=h;exact (h1.lt g rfl).2
theorem Part.there {α:Type} {K:Nat} {R:Pr α} {e:TypeId} {g n:Nat} {w:World} {l:List α} {k:Nat} (h:Part K R e g n w l k) (j:Nat) (hj:j<n*K):∃ x,w.cell? ⟨g,j,none⟩=some x:=by
 obtain ⟨xs,fps,h1,_⟩:=h;rw [h1.cellAt j hj];exact ⟨_,List.getElem?_eq_getElem (by rw [h1.1];exact hj)⟩
theorem Part.free {α:Type} {K:Nat} {R:Pr α} {e:TypeId} {g n:Nat} {w:World} {l:List α} {k:Nat} (h:Part K R e g n w l k) (j:Nat):w.frozen? ⟨g,j,none⟩=false:=by
 obtain ⟨xs,fps,h1,_⟩:=h;exact h1.frozenAt j
theorem Part.step {α:Type} {K:Nat} {R:Pr α} (F:Fits K R) {e:TypeId} {g n:Nat} {w w':World} {l:List α} {k:Nat} {cs:List Value} {fp:List Nat} (h:Part K R e g n w l k) (hn:l.length=n) (hk:k<l.length) (hb:Below w.heap.size w w') (hR:R w' l[k] cs fp) (hN:New fp w w') :
 Part K R e g n (putCells g w' (k*K) cs) l (k+1):=by
 obtain ⟨xs,fps,h10,h2,h30,h40,h5,h60⟩:=h;have h1:=h10.kept (row:=none) (w':=w') ⟨hb.os,hb.tape,hb.output,hb.size,fun q hq _=>hb.block q hq⟩ (.inr (by simp [Value.ownBlock]));have h6:=h60.below (fun b hb'=>(h40 b hb').2) hb;have h3:∀ i (h:i<l.length) (h':i<fps.length),∃ cs,R w' l[i] cs fps[i]∧∀ j (hj:j<cs.length),xs[i*K+j]?=some cs[j]:=fun i h h'=>by
  obtain ⟨cs,hR,hc⟩:=h30 i h h';exact ⟨cs,F.below hR hb,hc⟩
 have h4:∀ b,b∈fps.flatten->g<b∧b<w'.heap.size:=fun b hb'=>⟨(h40 b hb').1,by have:=(h40 b hb').2;have:=hb.size;omega⟩;have hlen:=F.len hR;have hglt:g<w.heap.size:=(h10.lt g rfl).2;have hnew:∀ b,b∈fp->g<b∧b<w'.heap.size:=fun b hb'=>⟨by have:=hN.lo b hb';omega,F.lt hR b hb'⟩;have hsm:∀ fq:List Nat,(∀ b,b∈fq->g<b)->Same fq w' (putCells g w' (k*K) cs):=fun fq hq b hb'=>putCells_block (by have:=hq b hb';omega) _ _ _;refine ⟨putRow xs (k*K) cs,fps++[fp],putCells_owns cs _ _ _ h1,by simp [h2],?_,?_,?_,?_⟩
 ·intro i h h';have hx:=h1.1;have hkK:(k+1)*K<=n*K:=Nat.mul_le_mul_right K (by omega);rw [Nat.succ_mul] at hkK;by_cases hik:i<k
  ·have hi':i<fps.length:=by omega
   obtain ⟨cs',hR',hc'⟩:=h3 i h hi';refine ⟨cs',?_,fun j hj=>?_⟩
   ·rw [List.getElem_append_left hi'];exact F.same hR' (hsm _ fun b hb'=>(h4 b (List.mem_flatten.2 ⟨_,List.getElem_mem hi',hb'⟩)).1) (by rw [putCells_size];exact Nat.le_refl _)
   ·have hl':=F.len hR';have h1':(i+1)*K<=k*K:=Nat.mul_le_mul_right K (by omega);rw [Nat.succ_mul] at h1';rw [putRow_out _ _ _ _ (.inl (by omega))];exact hc' j hj
  ·have hi':i=k:=by simp [h2] at h';omega
   subst hi';refine ⟨cs,?_,fun j hj=>putRow_in _ _ _ _ hj (by omega)⟩;rw [List.getElem_append_right (by omega)];simp only [h2,Nat.sub_self,List.getElem_cons_zero];exact F.same hR (hsm _ fun b hb'=>(hnew b hb').1) (by rw [putCells_size];exact Nat.le_refl _)
 ·intro b hb';rw [putCells_size];rw [List.flatten_append,List.mem_append] at hb';rcases hb' with hb'|hb'
  ·exact h4 b hb'
  ·exact hnew b (by simpa using hb')
 ·rw [List.flatten_append];refine nodup_app h5 (by simpa using hN.once) fun b hb1 hb2=>?_;have hb3:b∈fp:=by simpa using hb2
  have:=hN.lo b hb3;have:=(h40 b hb1).2;omega
 ·rw [List.flatten_append];refine (h6.same (hsm _ fun b hb'=>(h4 b hb').1)).app ?_;have:Free fp (putCells g w' (k*K) cs):=hN.free.same (hsm _ fun b hb'=>(hnew b hb').1);intro b hb';exact this b (by simpa using hb')
theorem Part.done {α:Type} {K:Nat} {R:Pr α} (F:Fits K R) {e:TypeId} {g n:Nat} {w0 w:World} {l:List α} (h:Part K R e g n w l n) (hn:l.length=n) (hm:n<=maxLen) (h0:w0.heap.size<=g) :
 ∃ fp,SlR K R w l (.slice (some ⟨g,0,none⟩) n n) fp∧New fp w0 w:=by
 obtain ⟨xs,fps,h1,h2,h3,h4,h5,h6⟩:=h;refine ⟨g::fps.flatten,⟨_,n,n,rfl,hn,Nat.le_refl _,hm,.inr ⟨g,0,fps,rfl,(h1.lt g rfl).2,rfl,by omega,fun i h h'=>?_⟩⟩,⟨fun b hb=>?_,?_,fun b hb o=>?_⟩⟩
 ·obtain ⟨cs,hR,hc⟩:=h3 i h h';refine ⟨cs,hR,fun j hj=>?_⟩;have hl:=F.len hR;have hkK:(i+1)*K<=n*K:=Nat.mul_le_mul_right K (by omega);rw [Nat.succ_mul] at hkK;rw [Nat.zero_add,h1.cellAt _ (by omega)];exact hc j hj
 ·rcases List.mem_cons.1 hb with rfl|hb
  ·exact h0
  ·have:=(h4 b hb).1;omega
 ·exact List.nodup_cons.2 ⟨fun hb=>by have:=(h4 g hb).1;omega,h5⟩
 ·rcases List.mem_cons.1 hb with rfl|hb
  ·exact h1.frozenAt o
  ·exact h6 b hb o
end Go.Proofs.Ytmcjklicepaiaaa
namespace Go.Proofs.Ytmcjklicepaiaaa
open Go.RowKit
theorem l1In_any (a b c:Int) (w:World) :
 Calls Try.prog 70 #[.int .i64 a,.int .i64 b,.int .i64 c] w fun e w'=>e = .returned (.bool (inB a b c))∧w=w':=by
 go_enter Try.func70,Try.ntmps70
 go_wp2
 all_goals go_ret
 all_goals refine ⟨ret_bool ?_,rfl⟩
 all_goals (simp [inB];try omega)
theorem in_any (a b c:Int) (w:World) :
 Calls Try.prog 52 #[.int .i64 a,.int .i64 b,.int .i64 c] w fun e w'=>e = .returned (.bool (inB a b c))∧w=w':=by
 go_enter Try.func52,Try.ntmps52
 go_wp2
 all_goals go_ret
 all_goals refine ⟨ret_bool ?_,rfl⟩
 all_goals (simp [inB];try omega)
theorem sAdrOk_any (a m:Int) (wr:Bool) (w:World) :
 Calls Try.prog 102 #[.int .i64 a,.int .i64 m,.bool wr] w fun e w'=>e = .returned (.bool (adrOk a m wr))∧w=w':=by
 by_cases h1:m=1
 case' neg=>by_cases h2:m=2
 case' neg=>by_cases h4:m=4
 all_goals try subst m
 all_goals
  go_enter Try.func102,Try.ntmps102
  go_wp2
  all_goals go_ret
  all_goals refine ⟨ret_bool ?_,rfl⟩
  all_goals (first|(cases wr<;>simp_all [adrOk]<;>omega)|(cases wr<;>simp_all [adrOk]))
theorem iAdrOk_any (a m:Int) (wr:Bool) (w:World) :
 Calls Try.prog 56 #[.int .i64 a,.int .i64 m,.bool wr] w fun e w'=>e = .returned (.bool (adrOk a m wr))∧w=w':=by
 by_cases h1:m=1
 case' neg=>by_cases h2:m=2
 case' neg=>by_cases h4:m=4
 all_goals try subst m
 all_goals
  go_enter Try.func56,Try.ntmps56
  go_wp2
  all_goals go_ret
  all_goals refine ⟨ret_bool ?_,rfl⟩
  all_goals (first|(cases wr<;>simp_all [adrOk]<;>omega)|(cases wr<;>simp_all [adrOk]))
end Go.Proofs.Ytmcjklicepaiaaa
