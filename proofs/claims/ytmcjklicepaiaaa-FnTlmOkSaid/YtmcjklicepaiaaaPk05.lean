/-
 Texts of this claim laid together: Base Facts.
-/
import Derived.WalkKit
import Derived.Below
import Derived.OneCell
import Derived.Deep.Draws
import Derived.Lib.Hide
import Derived.Deep.Slices
import Derived.ChangeArms
import Derived.ProofKit
import Derived.IntWalk
import Derived.Test.YtmcjklicepaiaaaPk01
set_option linter.unusedVariables false
set_option linter.unusedSimpArgs false
namespace Go.Proofs.Ytmcjklicepaiaaa
open Go.RowKit Go.ChangeShapes Go.WideShapes
theorem ret_bool {a b:Bool} (h:a=b):Ending.returned (.bool a) = .returned (.bool b):=by rw [h]
theorem ret_int {k:IntKind} {a b:Int} (h:a=b):Ending.returned (.int k a) = .returned (.int k b):=by rw [h]
def RetBool (e:Ending):Prop:=∃ x:Bool,e = .returned (.bool x)
def RetInt (lo hi:Int) (e:Ending):Prop:=∃ x:Int,lo<=x∧x<=hi∧e = .returned (.int .i64 x)
def inB (a lo hi:Int):Bool:=decide (lo<=a∧a<=hi)
theorem inB_true {a lo hi:Int}:inB a lo hi=true ↔ lo<=a∧a<=hi:=by simp [inB]
def adrOk (a m:Int) (wr:Bool):Bool:=decide (0<=a∧a<=63∧(m=1∨m=2∨m=4)∧(wr=true∨a+m<=64))
theorem adrOk_true {a m:Int} {wr:Bool}:adrOk a m wr=true ↔ (0<=a∧a<=63∧(m=1∨m=2∨m=4)∧(wr=true∨a+m<=64)):=by simp [adrOk]
def idxOf {α:Type} (p:α->Bool) (l:List α):Int:=match l.findIdx? p with|some i=>i|none => -1
theorem idxOf_hit {α:Type} {p:α->Bool} {l:List α} {k:Nat} (h:k<l.length) (hp:p l[k]=true) (hq:∀ j (hj:j<l.length),j<k->p l[j]=false):idxOf p l=k:=by
 have e:l.findIdx? p=some k:=by
  rw [List.findIdx?_eq_some_iff_getElem];exact ⟨h,hp,fun j hj=>by simp [hq j (by omega) hj]⟩
 unfold idxOf;rw [e]
theorem idxOf_none {α:Type} {p:α->Bool} {l:List α} (hq:∀ j (hj:j<l.length),p l[j]=false):idxOf p l = -1:=by
 have e:l.findIdx? p=none:=by
  rw [List.findIdx?_eq_none_iff];intro x hx;obtain ⟨j,hj,rfl⟩:=List.mem_iff_getElem.1 hx;exact hq j hj
 unfold idxOf;rw [e]
theorem idxOf_any {α:Type} (p:α->Bool) (l:List α):decide (0<=idxOf p l)=l.any p:=by
 unfold idxOf;cases e:l.findIdx? p with
 | none =>
  rw [List.findIdx?_eq_none_iff] at e;have:l.any p=false:=by rw [List.any_eq_false];intro x hx;simp [e x hx]
  rw [this];rfl
 | some i =>
  rw [List.findIdx?_eq_some_iff_getElem] at e;obtain ⟨h,hp,_⟩:=e;have:l.any p=true:=List.any_eq_true.2 ⟨l[i],List.getElem_mem h,hp⟩;rw [this];simp
def allIn (l:List Int) (lo hi:Int):Bool:=l.all fun x=>inB x lo hi
theorem allIn_no {l:List Int} {lo hi:Int} {k:Nat} (h:k<l.length) (hk:inB l[k] lo hi=false):allIn l lo hi=false:=by
 unfold allIn;rw [List.all_eq_false];exact ⟨l[k],List.getElem_mem h,by simp [hk]⟩
theorem allIn_yes {l:List Int} {lo hi:Int} (h:∀ j (hj:j<l.length),inB l[j] lo hi=true):allIn l lo hi=true:=by
 unfold allIn;rw [List.all_eq_true];intro x hx;obtain ⟨j,hj,rfl⟩:=List.mem_iff_getElem.1 hx;exact h j hj
/-! ### Data in memory -/
def Same (fp:List Nat) (w w':World):Prop:=∀ b,b∈fp->w'.heap[b]?=w.heap[b]?
theorem Same.cell {fp:List Nat} {w w':World} (h:Same fp w w') {b o:Nat} (hb:b∈fp):w'.cell? ⟨b,o,none⟩=w.cell? ⟨b,o,none⟩ :=
 World.cell?_of_block (h b hb)
theorem Same.mono {fp fq:List Nat} {w w':World} (h:Same fp w w') (hs:∀ b,b∈fq->b∈fp):Same fq w w':=fun b hb=>h b (hs b hb)
theorem Same.of_below {fp:List Nat} {w w':World} (h:Below w.heap.size w w') (hl:∀ b,b∈fp->b<w.heap.size):Same fp w w':=fun b hb=>h.block b (hl b hb)
abbrev Pr (α:Type):=World->α->List Value->List Nat->Prop
structure Fits {α:Type} (k:Nat) (R:Pr α):Prop where
 len:∀ {w x cs fp},R w x cs fp->cs.length=k
 lt:∀ {w x cs fp},R w x cs fp->∀ b,b∈fp->b<w.heap.size
 same:∀ {w w' x cs fp},R w x cs fp->Same fp w w'->w.heap.size<=w'.heap.size->R w' x cs fp
theorem Fits.below {α:Type} {k:Nat} {R:Pr α} (F:Fits k R) {w w':World} {x:α} {cs:List Value} {fp:List Nat} (h:R w x cs fp) (hb:Below w.heap.size w w'):R w' x cs fp :=
 F.same h (Same.of_below hb (F.lt h)) hb.size
def intR:Pr Int:=fun _ x cs fp=>cs=[.int .i64 x]∧fp=[]
def boolR:Pr Bool:=fun _ x cs fp=>cs=[.bool x]∧fp=[]
theorem intR_fits:Fits 1 intR:=⟨fun h=>by rw [h.1];rfl,fun h b hb=>by rw [h.2] at hb;simp at hb,fun h _ _=>h⟩
def SlR {α:Type} (k:Nat) (R:Pr α) (w:World) (l:List α) (v:Value) (fp:List Nat):Prop :=
 ∃ (a:Option Addr) (n cap:Nat),v = .slice a n cap∧l.length=n∧n<=cap∧cap<=maxLen ∧
  ((l=[]∧fp=[])∨∃ (b off:Nat) (fps:List (List Nat)),a=some ⟨b,off,none⟩∧b<w.heap.size∧fp=b::fps.flatten∧fps.length=l.length ∧
   ∀ i (h:i<l.length) (h':i<fps.length),∃ cs,R w l[i] cs fps[i]∧∀ j (hj:j<cs.length),w.cell? ⟨b,off+i*k+j,none⟩=some cs[j])
def slR {α:Type} (k:Nat) (R:Pr α):Pr (List α):=fun w l cs fp=>∃ v,cs=[v]∧SlR k R w l v fp
theorem SlR.lt {α:Type} {k:Nat} {R:Pr α} (F:Fits k R) {w:World} {l:List α} {v:Value} {fp:List Nat} (h:SlR k R w l v fp):∀ b,b∈fp->b<w.heap.size:=by
 obtain ⟨a,n,cap,rfl,hn,_,_,⟨rfl,rfl⟩|⟨b,off,fps,rfl,hb,rfl,hf,hc⟩⟩:=h
 ·intro b hb;simp at hb
 ·intro c hcm;rcases List.mem_cons.1 hcm with rfl|hm
  ·exact hb
  ·obtain ⟨f,hfm,hcf⟩:=List.mem_flatten.1 hm;obtain ⟨i,hi,rfl⟩:=List.mem_iff_getElem.1 hfm;obtain ⟨cs,hR,_⟩:=hc i (by omega) hi;exact F.lt hR c hcf
theorem SlR.same {α:Type} {k:Nat} {R:Pr α} (F:Fits k R) {w w':World} {l:List α} {v:Value} {fp:List Nat} (h:SlR k R w l v fp) (hs:Same fp w w') (hz:w.heap.size<=w'.heap.size):SlR k R w' l v fp:=by
 obtain ⟨a,n,cap,rfl,hn,hcap,hcm,⟨rfl,rfl⟩|⟨b,off,fps,rfl,hb,rfl,hf,hc⟩⟩:=h
 ·exact ⟨a,n,cap,rfl,hn,hcap,hcm,.inl ⟨rfl,rfl⟩⟩
 ·refine ⟨_,n,cap,rfl,hn,hcap,hcm,.inr ⟨b,off,fps,rfl,by omega,rfl,hf,fun i h h'=>?_⟩⟩;obtain ⟨cs,hR,hcell⟩:=hc i h h';refine ⟨cs,F.same hR (hs.mono fun c hcm=>List.mem_cons_of_mem _ (List.mem_flatten.2 ⟨_,List.getElem_mem h',hcm⟩)) hz,fun j hj=>?_⟩;rw [hs.cell (List.mem_cons_self ..)];exact hcell j hj
theorem slR_fits {α:Type} {k:Nat} {R:Pr α} (F:Fits k R):Fits 1 (slR k R) :=
 ⟨fun ⟨v,h,_⟩=>by rw [h];rfl,fun ⟨_,_,h⟩=>h.lt F,fun ⟨v,e,h⟩ hs hz=>⟨v,e,h.same F hs hz⟩⟩
theorem SlR.below {α:Type} {k:Nat} {R:Pr α} (F:Fits k R) {w w':World} {l:List α} {v:Value} {fp:List Nat} (h:SlR k R w l v fp) (hb:Below w.heap.size w w'):SlR k R w' l v fp :=
 h.same F (Same.of_below hb (h.lt F)) hb.size
theorem SlR.opened {α:Type} {k:Nat} {R:Pr α} {w:World} {l:List α} {v:Value} {fp:List Nat} (h:SlR k R w l v fp) :
 ∃ (a:Option Addr) (n cap:Nat),v = .slice a n cap∧Hid (l.length=n)∧n<=cap∧n<=9223372036854775807∧cap<=maxLen ∧
  ∀ i,i<n->∃ (_:i<l.length) (b off:Nat) (f:List Nat) (cs:List Value),a=some ⟨b,off,none⟩∧b<w.heap.size∧b∈fp∧(∀ c,c∈f->c∈fp)∧R w l[i] cs f∧∀ j (hj:j<cs.length),w.cell? ⟨b,off+i*k+j,none⟩=some cs[j]:=by
 have hmx:∀ n cap:Nat,n<=cap->cap<=maxLen->n<=9223372036854775807:=fun n cap h1 h2=>by unfold maxLen at h2;omega
 obtain ⟨a,n,cap,rfl,rfl,hcap,hcm,⟨rfl,rfl⟩|⟨b,off,fps,rfl,hb,rfl,hf,hc⟩⟩:=h
 ·exact ⟨a,0,cap,rfl,Lib.hid rfl,hcap,hmx _ _ hcap hcm,hcm,fun i h=>absurd h (by omega)⟩
 ·refine ⟨_,_,cap,rfl,Lib.hid rfl,hcap,hmx _ _ hcap hcm,hcm,fun i h=>⟨h,?_⟩⟩;obtain ⟨cs,hR,hcell⟩:=hc i h (by omega);exact ⟨b,off,fps[i]'(by omega),cs,rfl,hb,List.mem_cons_self ..,fun c hcm=>List.mem_cons_of_mem _ (List.mem_flatten.2 ⟨_,List.getElem_mem _,hcm⟩),hR,hcell⟩
theorem SlR.form {α:Type} {k:Nat} {R:Pr α} {w:World} {l:List α} {v:Value} {fp:List Nat} (h:SlR k R w l v fp):∃ (a:Option Addr) (n cap:Nat),v = .slice a n cap:=by
 obtain ⟨a,n,cap,h,_⟩:=h;exact ⟨a,n,cap,h⟩
theorem SlR.take {α:Type} {k:Nat} {R:Pr α} {w:World} {l:List α} {a:Option Addr} {n cap:Nat} {fp:List Nat} (h:SlR k R w l (.slice a n cap) fp) (m:Nat) (hm:m<=n) :
 ∃ fq,SlR k R w (l.take m) (.slice a m cap) fq∧∀ b,b∈fq->b∈fp:=by
 obtain ⟨a',n',cap',e,hn,hcap,hcm,hr⟩:=h;simp only [Value.slice.injEq] at e;obtain ⟨rfl,rfl,rfl⟩:=e;have hlm:(l.take m).length=m:=by simp;omega
 by_cases hm0:m=0
 ·subst hm0;exact ⟨[],⟨a,0,cap,rfl,by simp,by omega,hcm,.inl ⟨by simp,rfl⟩⟩,by simp⟩
 ·rcases hr with ⟨rfl,rfl⟩|⟨b,off,fps,rfl,hb,rfl,hf,hc⟩
  ·simp at hn;omega
  ·refine ⟨b::(fps.take m).flatten,⟨_,m,cap,rfl,hlm,by omega,hcm,.inr ⟨b,off,fps.take m,rfl,hb,rfl,by simp;omega,fun i h h'=>?_⟩⟩,fun c hc'=>?_⟩
   ·obtain ⟨cs,hR,hcell⟩:=hc i (by omega) (by omega);exact ⟨cs,by simpa using hR,hcell⟩
   ·rcases List.mem_cons.1 hc' with rfl|hm'
    ·exact List.mem_cons_self ..
    ·obtain ⟨f,hf1,hf2⟩:=List.mem_flatten.1 hm';exact List.mem_cons_of_mem _ (List.mem_flatten.2 ⟨f,List.mem_of_mem_take hf1,hf2⟩)
abbrev IntS:=SlR 1 intR
abbrev BoolS:=SlR 1 boolR
theorem IntS.opened {w:World} {l:List Int} {v:Value} {fp:List Nat} (h:IntS w l v fp) :
 ∃ (a:Option Addr) (n cap:Nat),v = .slice a n cap∧Hid (l.length=n)∧n<=cap∧n<=9223372036854775807∧cap<=maxLen ∧
  ∀ i,i<n->∃ (_:i<l.length) (b off:Nat),a=some ⟨b,off,none⟩∧b<w.heap.size∧b∈fp∧w.cell? ⟨b,off+i,none⟩=some (.int .i64 l[i]):=by
 obtain ⟨a,n,cap,rfl,hn,hcap,hmax,hcm,hc⟩:=SlR.opened h;refine ⟨a,n,cap,rfl,hn,hcap,hmax,hcm,fun i h=>?_⟩;obtain ⟨hi,b,off,f,cs,rfl,hb,hbf,_,⟨rfl,rfl⟩,hcell⟩:=hc i h;exact ⟨hi,b,off,rfl,hb,hbf,by simpa using hcell 0 (by simp)⟩
theorem BoolS.opened {w:World} {l:List Bool} {v:Value} {fp:List Nat} (h:BoolS w l v fp) :
 ∃ (a:Option Addr) (n cap:Nat),v = .slice a n cap∧Hid (l.length=n)∧n<=cap∧n<=9223372036854775807∧cap<=maxLen ∧
  ∀ i,i<n->∃ (_:i<l.length) (b off:Nat),a=some ⟨b,off,none⟩∧b<w.heap.size∧b∈fp∧w.cell? ⟨b,off+i,none⟩=some (.bool l[i]):=by
 obtain ⟨a,n,cap,rfl,hn,hcap,hmax,hcm,hc⟩:=SlR.opened h;refine ⟨a,n,cap,rfl,hn,hcap,hmax,hcm,fun i h=>?_⟩;obtain ⟨hi,b,off,f,cs,rfl,hb,hbf,_,⟨rfl,rfl⟩,hcell⟩:=hc i h;exact ⟨hi,b,off,rfl,hb,hbf,by simpa using hcell 0 (by simp)⟩
structure Chg (fp:List Nat) (w w':World):Prop where
 os:w'.os=w.os
 tape:w'.tape=w.tape
 output:w'.output=w.output
 size:w.heap.size<=w'.heap.size
 block:∀ k,k<w.heap.size->k∉fp->w'.heap[k]?=w.heap[k]?
theorem _root_.Go.RowKit.Below.chg {w w':World} (h:Below w.heap.size w w') (fp:List Nat):Chg fp w w':=⟨h.os,h.tape,h.output,h.size,fun k hk _=>h.block k hk⟩
theorem Chg.below {w w':World} (h:Chg [] w w'):Below w.heap.size w w':=⟨h.os,h.tape,h.output,h.size,fun k hk=>h.block k hk (by simp)⟩
theorem Chg.refl (fp:List Nat) (w:World):Chg fp w w:=⟨rfl,rfl,rfl,Nat.le_refl _,fun _ _ _=>rfl⟩
theorem Chg.mono {fp fq:List Nat} {w w':World} (h:Chg fp w w') (hs:∀ b,b∈fp->b∈fq):Chg fq w w':=⟨h.os,h.tape,h.output,h.size,fun k hk hn=>h.block k hk fun hm=>hn (hs k hm)⟩
theorem Chg.trans {fp fq:List Nat} {a b c:World} (h:Chg fp a b) (g:Chg fq b c):Chg (fp++fq) a c :=
 ⟨g.os.trans h.os,g.tape.trans h.tape,g.output.trans h.output,Nat.le_trans h.size g.size,fun k hk hn=>by
  simp only [List.mem_append,not_or] at hn;exact (g.block k (Nat.lt_of_lt_of_le hk h.size) hn.2).trans (h.block k hk hn.1)⟩
theorem Chg.trans' {fp:List Nat} {a b c:World} (h:Chg fp a b) (g:Chg fp b c):Chg fp a c:=(h.trans g).mono fun b hb=>by simpa using hb
theorem Chg.drop {fp fq:List Nat} {w w':World} (h:Chg fp w w') (hs:∀ b,b∈fp->b<w.heap.size->b∈fq):Chg fq w w':=⟨h.os,h.tape,h.output,h.size,fun k hk hn=>h.block k hk fun hm=>hn (hs k hm hk)⟩
theorem Chg.drewN {fp:List Nat} {a w:World} (h:Chg fp a w) (n:Nat):Chg fp a (w.drewN n):=⟨h.os,h.tape,h.output,h.size,h.block⟩
theorem Chg.same {fp fq:List Nat} {w w':World} (h:Chg fp w w') (hl:∀ b,b∈fq->b<w.heap.size) (hd:∀ b,b∈fq->b∉fp):Same fq w w':=fun b hb=>h.block b (hl b hb) (hd b hb)
theorem Fits.chg {α:Type} {k:Nat} {R:Pr α} (F:Fits k R) {fp fq:List Nat} {w w':World} {x:α} {cs:List Value} (h:R w x cs fp) (hc:Chg fq w w') (hd:∀ b,b∈fp->b∉fq):R w' x cs fp :=
 F.same h (hc.same (F.lt h) hd) hc.size
theorem block_of_cell {w:World} {a:Addr} {v:Value} (h:w.cell? a=some v):a.block<w.heap.size:=by
 rcases Nat.lt_or_ge a.block w.heap.size with h'|h'
 ·exact h'
 ·simp [World.cell?,Array.getElem?_eq_none h'] at h
theorem keep_cell {W w1:World} (hb:Below W.heap.size W w1) {b o:Nat} {v:Value} (h:W.cell? ⟨b,o,none⟩=some v):w1.cell? ⟨b,o,none⟩=some v :=
 (hb.cell (p:=⟨b,o,none⟩) (block_of_cell h)).trans h
theorem keep_cell_chg {fp:List Nat} {W w1:World} (hb:Chg fp W w1) {b o:Nat} {v:Value} (h:W.cell? ⟨b,o,none⟩=some v) (hn:b∉fp):w1.cell? ⟨b,o,none⟩=some v :=
 (World.cell?_of_block (hb.block b (block_of_cell h) hn)).trans h
theorem keep_free {W w1:World} (hb:Below W.heap.size W w1) {b o:Nat} (hl:b<W.heap.size) (h:W.frozen? ⟨b,o,none⟩=false):w1.frozen? ⟨b,o,none⟩=false :=
 (hb.frozen (p:=⟨b,o,none⟩) hl).trans h
theorem alloc_new (w:World) (v:Value) (T:TypeId):(w.alloc (.cells #[v] T)).cell? ⟨w.heap.size,0,none⟩=some v:=by rw [World.cell?_alloc_at _ _ _ _ rfl];rfl
theorem alloc_keep {w:World} {b o:Nat} {v:Value} (h:w.cell? ⟨b,o,none⟩=some v) (x:Obj):(w.alloc x).cell? ⟨b,o,none⟩=some v:=by
 rw [World.cell?_alloc_past _ _ _ (block_of_cell h)];exact h
theorem below_alloc (w:World) (o:Obj):Below w.heap.size w (w.alloc o):=(Below.refl _ _).alloc (Nat.le_refl _) o
theorem SlR.alloc {α:Type} {k:Nat} {R:Pr α} (F:Fits k R) {w:World} {l:List α} {v:Value} {fp:List Nat} (h:SlR k R w l v fp) (o:Obj):SlR k R (w.alloc o) l v fp:=h.below F (below_alloc w o)
theorem SlR.chg {α:Type} {k:Nat} {R:Pr α} (F:Fits k R) {w w':World} {l:List α} {v:Value} {fp fq:List Nat} (h:SlR k R w l v fp) (hc:Chg fq w w') (hd:∀ b,b∈fp->b∉fq):SlR k R w' l v fp :=
 h.same F (hc.same (h.lt F) hd) hc.size
theorem alloc1_new (w:World) (A:Array Value) (T:TypeId) (i:Nat) {v:Value} (h:A[i]?=some v):(w.alloc (.cells A T)).cell? ⟨w.heap.size,i,none⟩=some v:=by
 rw [World.cell?_alloc_at _ _ _ _ rfl];exact h
theorem alloc2_new (w:World) (A B:Array Value) (T S:TypeId) (i:Nat) {v:Value} (h:B[i]?=some v):((w.alloc (.cells A T)).alloc (.cells B S)).cell? ⟨w.heap.size+1,i,none⟩=some v:=by
 rw [World.cell?_alloc_at _ _ _ _ (by simp)];exact h
theorem alloc2_old (w:World) (A B:Array Value) (T S:TypeId) (i:Nat) {v:Value} (h:A[i]?=some v):((w.alloc (.cells A T)).alloc (.cells B S)).cell? ⟨w.heap.size,i,none⟩=some v :=
 alloc_keep (alloc1_new w A T i h) _
theorem rules_below {W w1:World} (hb:Below W.heap.size W w1):(∀ b o,b<W.heap.size->w1.cell? ⟨b,o,none⟩=W.cell? ⟨b,o,none⟩)∧(∀ b o,b<W.heap.size->w1.frozen? ⟨b,o,none⟩=W.frozen? ⟨b,o,none⟩) :=
 ⟨fun b o h=>hb.cell (p:=⟨b,o,none⟩) h,fun b o h=>hb.frozen (p:=⟨b,o,none⟩) h⟩
theorem below_of_grown {W w1:World} (hg:W.grownBy w1 none):Below W.heap.size W w1:=(Below.refl _ _).grown hg (Nat.le_refl _) (fun k hk=>by simp at hk)
def Free (fp:List Nat) (w:World):Prop:=∀ b,b∈fp->∀ o,w.frozen? ⟨b,o,none⟩=false
theorem Free.same {fp:List Nat} {w w':World} (h:Free fp w) (hs:Same fp w w'):Free fp w':=fun b hb o=>(World.frozen?_of_block (hs b hb)).trans (h b hb o)
theorem Free.below {fp:List Nat} {w w':World} (h:Free fp w) (hl:∀ b,b∈fp->b<w.heap.size) (hb:Below w.heap.size w w'):Free fp w':=h.same (Same.of_below hb hl)
theorem Free.chg {fp fq:List Nat} {w w':World} (h:Free fp w) (hl:∀ b,b∈fp->b<w.heap.size) (hb:Chg fq w w') (hd:∀ b,b∈fp->b∉fq):Free fp w':=h.same (hb.same hl hd)
theorem Chg.home {fp:List Nat} {w w':World} (h:Chg fp w w') (hl:∀ b,b∈fp->w.heap.size<=b):Below w.heap.size w w':=(h.drop (fq:=[]) fun b hb hlt=>absurd (hl b hb) (by omega)).below
structure New (fp:List Nat) (w w':World):Prop where
 lo:∀ b,b∈fp->w.heap.size<=b
 once:fp.Nodup
 free:Free fp w'
theorem New.nil (w w':World):New [] w w':=⟨fun b hb=>by simp at hb,List.nodup_nil,fun b hb=>by simp at hb⟩
def szR (left:Int) (n:Nat):Int:=if left<n then -1 else left - n
theorem IntS.of_owns {w:World} {base e n:Nat} {v:Value} {l:List Int} (h:w.ownsRow base e 1 v n (l.map (Value.int .i64))) :
 ∃ fp,IntS w l v fp∧(∀ b,b∈fp->base<=b)∧fp.Nodup∧Free fp w:=by
 obtain ⟨hl,⟨rfl,rfl⟩|⟨g,cap,cur,rfl,hb,hg,hnc,hcm,hcs,htake⟩⟩:=h
 ·obtain rfl:l=[]:=by simpa using hl
  exact ⟨[],⟨none,0,0,rfl,rfl,Nat.le_refl _,by simp,.inl ⟨rfl,rfl⟩⟩,by simp,List.nodup_nil,fun b hb=>by simp at hb⟩
 ·have hln:l.length=n:=by simpa using hl
  have hgl:g<w.heap.size:=by
   rcases Nat.lt_or_ge g w.heap.size with h|h
   ·exact h
   ·simp [Array.getElem?_eq_none h] at hg
  refine ⟨[g],⟨_,n,cap,rfl,hln,hnc,hcm,.inr ⟨g,0,List.replicate l.length [],rfl,hgl,by simp,by simp,fun i h h'=>⟨[.int .i64 l[i]],⟨rfl,by simp⟩,fun j hj=>?_⟩⟩⟩,by simpa using hb,by simp,?_⟩
  ·have:j=0:=by simpa using hj
   subst this;rw [cell_of_row w g _ cur e (0,0) hg];have h1:(cur.toList.take (n*1))[i]?=some (.int .i64 l[i]):=by rw [htake];simp [h]
   rw [List.getElem?_take,if_pos (by omega)] at h1;simpa using h1
  ·intro b hb' o;obtain rfl:b=g:=by simpa using hb'
   exact frozen_of_row w b o cur e hg
theorem BoolS.of_owns {w:World} {base e n:Nat} {v:Value} {l:List Bool} (h:w.ownsRow base e 1 v n (l.map (Value.bool))) :
 ∃ fp,BoolS w l v fp∧(∀ b,b∈fp->base<=b)∧fp.Nodup∧Free fp w:=by
 obtain ⟨hl,⟨rfl,rfl⟩|⟨g,cap,cur,rfl,hb,hg,hnc,hcm,hcs,htake⟩⟩:=h
 ·obtain rfl:l=[]:=by simpa using hl
  exact ⟨[],⟨none,0,0,rfl,rfl,Nat.le_refl _,by simp,.inl ⟨rfl,rfl⟩⟩,by simp,List.nodup_nil,fun b hb=>by simp at hb⟩
 ·have hln:l.length=n:=by simpa using hl
  have hgl:g<w.heap.size:=by
   rcases Nat.lt_or_ge g w.heap.size with h|h
   ·exact h
   ·simp [Array.getElem?_eq_none h] at hg
  refine ⟨[g],⟨_,n,cap,rfl,hln,hnc,hcm,.inr ⟨g,0,List.replicate l.length [],rfl,hgl,by simp,by simp,fun i h h'=>⟨[.bool l[i]],⟨rfl,by simp⟩,fun j hj=>?_⟩⟩⟩,by simpa using hb,by simp,?_⟩
  ·have:j=0:=by simpa using hj
   subst this;rw [cell_of_row w g _ cur e (0,0) hg];have h1:(cur.toList.take (n*1))[i]?=some (.bool l[i]):=by rw [htake];simp [h]
   rw [List.getElem?_take,if_pos (by omega)] at h1;simpa using h1
  ·intro b hb' o;obtain rfl:b=g:=by simpa using hb'
   exact frozen_of_row w b o cur e hg
theorem SlR.of_owns {α:Type} {k:Nat} {c:α->List Value} {w:World} {base e n:Nat} {v:Value} {xs:List Value} {l:List α} (h:w.ownsRow base e k v n xs) (hln:l.length=n) (hk:∀ x,(c x).length=k)
 (hc:∀ i (hi:i<l.length) j (hj:j<(c l[i]).length),xs[i*k+j]?=some (c l[i])[j]) :
 ∃ fp,SlR k (fun _ x cs fp=>cs=c x∧fp=[]) w l v fp∧(∀ b,b∈fp->base<=b)∧fp.Nodup∧Free fp w:=by
 obtain ⟨hl,⟨rfl,rfl⟩|⟨g,cap,cur,rfl,hb,hg,hnc,hcm,hcs,htake⟩⟩:=h
 ·obtain rfl:l=[]:=by simpa using hln
  exact ⟨[],⟨none,0,0,rfl,rfl,Nat.le_refl _,by simp,.inl ⟨rfl,rfl⟩⟩,by simp,List.nodup_nil,fun b hb=>by simp at hb⟩
 ·have hgl:g<w.heap.size:=by
   rcases Nat.lt_or_ge g w.heap.size with h|h
   ·exact h
   ·simp [Array.getElem?_eq_none h] at hg
  refine ⟨[g],⟨_,n,cap,rfl,hln,hnc,hcm,.inr ⟨g,0,List.replicate l.length [],rfl,hgl,by simp,by simp,fun i h h'=>⟨c l[i],⟨rfl,by simp⟩,fun j hj=>?_⟩⟩⟩,by simpa using hb,by simp,?_⟩
  ·rw [cell_of_row w g _ cur e (0,0) hg];have h1:=hc i h j hj;rw [<- htake,List.getElem?_take] at h1;have hlt:i*k+j<n*k:=by
    have h3:=hk l[i];have:(i+1)*k<=n*k:=Nat.mul_le_mul_right k (by omega);rw [Nat.succ_mul] at this;omega
   rw [if_pos hlt] at h1;simpa using h1
  ·intro b hb' o;obtain rfl:b=g:=by simpa using hb'
   exact frozen_of_row w b o cur e hg
def putRow:List Value->Nat->List Value->List Value
 | xs,_,[]=>xs
 | xs,i,c::cs=>putRow (xs.set i c) (i+1) cs
theorem putRow_out (cs:List Value):∀ (xs:List Value) (i q:Nat),(q<i∨i+cs.length<=q)->(putRow xs i cs)[q]?=xs[q]?:=by
 induction cs with
 | nil=>intro xs i q _;rfl
 | cons c cs ih =>
  intro xs i q h;simp only [List.length_cons] at h;rw [putRow,ih _ _ _ (by omega),List.getElem?_set_ne (by omega)]
theorem putRow_in (cs:List Value):∀ (xs:List Value) (i j:Nat) (hj:j<cs.length),i+cs.length<=xs.length->(putRow xs i cs)[i+j]?=some cs[j]:=by
 induction cs with
 | nil=>intro xs i j hj _;simp at hj
 | cons c cs ih =>
  intro xs i j hj hl;simp only [List.length_cons] at hj hl;cases j with
  | zero =>
   rw [putRow,putRow_out _ _ _ _ (.inl (by omega)),Nat.add_zero,List.getElem?_set_self (by omega)];rfl
  | succ j =>
   rw [putRow,show i+(j+1)=i+1+j by omega,ih _ _ _ (by omega) (by simp;omega)];rfl
theorem IntS.set {w:World} {l:List Int} {a:Option Addr} {n cap b off:Nat} {fp:List Nat} (h:IntS w l (.slice a n cap) fp) (ha:a=some ⟨b,off,none⟩) {i:Nat} (hi:i<n) (x:Int) :
 IntS (w.setCell ⟨b,off+i,none⟩ (.int .i64 x)) (l.set i x) (.slice a n cap) fp∧Chg fp w (w.setCell ⟨b,off+i,none⟩ (.int .i64 x))∧b∈fp:=by
 obtain ⟨a',n',cap',e,hn,hcap,hcm,⟨rfl,rfl⟩|⟨b',off',fps,rfl,hb,rfl,hf,hc⟩⟩:=h
 ·simp only [Value.slice.injEq] at e;obtain ⟨_,rfl,_⟩:=e;simp at hn;omega
 ·simp only [Value.slice.injEq] at e;obtain ⟨e1,rfl,rfl⟩:=e;subst ha;simp only [Option.some.injEq,Addr.mk.injEq,and_true] at e1;obtain ⟨rfl,rfl⟩:=e1;refine ⟨⟨_,n,cap,rfl,by simpa using hn,hcap,hcm,.inr ⟨b,off,fps,rfl,by simpa using hb,rfl,by simpa using hf,fun j h h'=>?_⟩⟩,
   ⟨rfl,rfl,rfl,by simp,fun k _ hk=>Below.heap_setCell _ _ _ _ (fun e=>hk (by simp [e]))⟩,List.mem_cons_self ..⟩
  have hj:j<l.length:=by simpa using h
  obtain ⟨cs,⟨rfl,hfj⟩,hcell⟩:=hc j hj h';refine ⟨[.int .i64 ((l.set i x)[j])],⟨rfl,hfj⟩,fun q hq=>?_⟩;obtain rfl:q=0:=by simpa using hq
  have h0:=hcell 0 (by simp);simp only [Nat.mul_one,Nat.add_zero,List.getElem_cons_zero] at h0 ⊢;by_cases hji:i=j
  ·subst hji;rw [World.cell?_setCell_same _ _ _ h0];simp
  ·rw [World.cell?_setCell_other _ _ _ _ (by simp),h0];simp [hji]
theorem Free.setCell {fp:List Nat} {w:World} (h:Free fp w) (a:Addr) (u:Value):Free fp (w.setCell a u):=fun b hb o=>by
 rw [World.frozen?_setCell];exact h b hb o
/-! ### What is handed in reads so -/
def Opens {α:Type} (P:Program) (t:TypeId) (R:Pr α):Prop :=
 ∀ {H:Type} {enc:TypeId × Value->H} {w:World} {fuel:Nat} {cs:List Value} {x:DataW H × List MemPlace},DataW.trod enc P w 0 (fun _=>true) true fuel t cs=some x->∃ v fp,R w v cs fp
theorem opens_slice {α:Type} {P:Program} {t e:TypeId} {k:Nat} {R:Pr α} (ht:P.underlying t=some (.slice e)) (hk:P.cellsOf e=k) (h0:0<k) (hE:Opens P e R) (F:Fits k R):Opens P t (slR k R):=fun {H enc w fuel cs x} h=>by
 rcases Go.Deep.open_slice ht h with ⟨rfl,_⟩|⟨a,len,cap,m,n,D,Pl,rfl,_,hl,hc,hm,_,hi⟩
 ·exact ⟨[],[],_,rfl,none,0,0,rfl,rfl,Nat.le_refl _,Nat.zero_le _,.inl ⟨rfl,rfl⟩⟩
 ·have hm':m=cap:=by simpa using hm
  have each:∀ i,i<len->∃ v fp cs',R w v cs' fp∧w.cells? 0 (a.add (i*k)) k=some cs':=fun i h=>by
   obtain ⟨cs',hcs,htr⟩:=hi i (by omega);obtain ⟨v,fp,hR⟩:=hE htr;exact ⟨v,fp,cs',hR,by rw [hk] at hcs;exact hcs⟩
  have main:∀ q,q<=len->∃ (l:List α) (fps:List (List Nat)),l.length=q∧fps.length=q∧∀ i (h:i<l.length) (h':i<fps.length),∃ cs',R w l[i] cs' fps[i]∧w.cells? 0 (a.add (i*k)) k=some cs':=by
   intro q
   induction q with
   | zero=>exact fun _=>⟨[],[],rfl,rfl,fun i h=>absurd h (by simp)⟩
   | succ q ih =>
    intro hq;obtain ⟨l,fps,h1,h2,h3⟩:=ih (by omega);obtain ⟨v,fp,cs',hR,hcs⟩:=each q (by omega);refine ⟨l++[v],fps++[fp],by simp [h1],by simp [h2],fun i h h'=>?_⟩;by_cases hiq:i<q
    ·obtain ⟨cs'',hR',hcs'⟩:=h3 i (by omega) (by omega);exact ⟨cs'',by rw [List.getElem_append_left (by omega),List.getElem_append_left (by omega)];exact hR',hcs'⟩
    ·have hi':i=q:=by simp [h1] at h;omega
     subst hi';refine ⟨cs',?_,hcs⟩;rw [List.getElem_append_right (by omega),List.getElem_append_right (by omega)];simpa [h1,h2] using hR
  obtain ⟨l,fps,h1,h2,h3⟩:=main len (Nat.le_refl _);by_cases hlen:len=0
  ·subst hlen;obtain rfl:l=[]:=by simpa using h1
   exact ⟨[],[],_,rfl,some a,0,cap,rfl,rfl,hl,hc,.inl ⟨rfl,rfl⟩⟩
  ·obtain ⟨cs0,hR0,hcs0⟩:=h3 0 (by omega) (by omega);obtain ⟨_,hl0,hat0⟩:=World.cells?_some hcs0;have hc0:=hat0 0 h0;obtain ⟨b,off,spot⟩:=a;have hv0:cs0[0]?=some (cs0[0]'(by rw [F.len hR0];exact h0)):=List.getElem?_eq_getElem _;have hspot:spot=none:=by
    rw [hv0] at hc0;simpa [Addr.add] using World.cell?_spot hc0
   subst hspot;have hb:b<w.heap.size:=by
    rw [hv0] at hc0;simpa [Addr.add] using block_of_cell hc0
   refine ⟨l,b::fps.flatten,_,rfl,_,len,cap,rfl,h1,hl,hc,.inr ⟨b,off,fps,rfl,hb,rfl,by omega,fun i h h'=>?_⟩⟩;obtain ⟨cs',hR,hcs⟩:=h3 i h h';obtain ⟨_,hl',hat⟩:=World.cells?_some hcs;refine ⟨cs',hR,fun j hj=>?_⟩;have hj':=hat j (by rw [<- F.len hR];exact hj);rw [add_plain,add_plain] at hj';rw [hj'];exact List.getElem?_eq_getElem _
end Go.Proofs.Ytmcjklicepaiaaa
namespace Go.Proofs.Ytmcjklicepaiaaa
open Go.RowKit
abbrev Fact:=Value->World->Prop
def FAny:Fact:=fun _ _=>True
def FEq (c:Value):Fact:=fun v _=>v=c
def FInt (lo hi:Int):Fact:=fun v _=>∃ x:Int,lo<=x∧x<=hi∧v = .int .i64 x
def FBool:Fact:=fun v _=>∃ x:Bool,v = .bool x
def FSl (fp:List Nat) (n:Nat) (lo hi:Int):Fact:=fun v w=>∃ b:Nat,v = .slice (some ⟨b,0,none⟩) n n∧b∉fp∧∀ i,i<n->∃ x:Int,lo<=x∧x<=hi∧w.cell? ⟨b,i,none⟩=some (.int .i64 x)
def FPtr (fp:List Nat) (lo hi:Int):Fact:=fun v w=>∃ (b i:Nat) (x:Int),v = .pointer (some ⟨b,i,none⟩)∧b∉fp∧lo<=x∧x<=hi∧w.cell? ⟨b,i,none⟩=some (.int .i64 x)
def Stable (fp:List Nat) (F:Fact):Prop:=∀ v w w',F v w->Chg fp w w'->F v w'
theorem stAny (fp:List Nat):Stable fp FAny:=fun _ _ _ _ _=>trivial
theorem stEq (fp:List Nat) (c:Value):Stable fp (FEq c):=fun _ _ _ h _=>h
theorem stInt (fp:List Nat) (lo hi:Int):Stable fp (FInt lo hi):=fun _ _ _ h _=>h
theorem stBool (fp:List Nat):Stable fp FBool:=fun _ _ _ h _=>h
theorem stSl (fp:List Nat) (n:Nat) (lo hi:Int):Stable fp (FSl fp n lo hi):=fun _ _ _ ⟨b,e,hb,hc⟩ hg=>⟨b,e,hb,fun i hi=>by
 obtain ⟨x,h1,h2,h3⟩:=hc i hi;exact ⟨x,h1,h2,keep_cell_chg hg h3 hb⟩⟩
theorem stPtr (fp:List Nat) (lo hi:Int):Stable fp (FPtr fp lo hi):=fun _ _ _ ⟨b,i,x,e,hb,h1,h2,h3⟩ hg=>⟨b,i,x,e,hb,h1,h2,keep_cell_chg hg h3 hb⟩
def facts (l:List Fact) (j:Nat):Value->World->Prop:=(l[j]?).getD FAny
theorem facts_stable {fp:List Nat} {l:List Fact} (h:∀ F,F∈l->Stable fp F) {w w':World} (hc:Chg fp w w'):∀ j x,facts l j x w->facts l j x w':=by
 intro j x hx;unfold facts at *;cases hj:l[j]? with
 | none=>trivial
 | some F=>rw [hj] at hx;exact h F (List.mem_of_getElem? hj) x w w' hx hc
def FSlP (fp:List Nat) (n:Nat) (p:Int->Prop):Fact:=fun v w=>∃ b:Nat,v = .slice (some ⟨b,0,none⟩) n n∧b∉fp∧∀ i,i<n->∃ x:Int,p x∧w.cell? ⟨b,i,none⟩=some (.int .i64 x)
def FPtrP (fp:List Nat) (p:Int->Prop):Fact:=fun v w=>∃ (b i:Nat) (x:Int),v = .pointer (some ⟨b,i,none⟩)∧b∉fp∧p x∧w.cell? ⟨b,i,none⟩=some (.int .i64 x)
def FIntP (p:Int->Prop):Fact:=fun v _=>∃ x:Int,p x∧v = .int .i64 x
theorem stSlP (fp:List Nat) (n:Nat) (p:Int->Prop):Stable fp (FSlP fp n p):=fun _ _ _ ⟨b,e,hb,hc⟩ hg=>⟨b,e,hb,fun i hi=>by
 obtain ⟨x,h1,h3⟩:=hc i hi;exact ⟨x,h1,keep_cell_chg hg h3 hb⟩⟩
theorem stPtrP (fp:List Nat) (p:Int->Prop):Stable fp (FPtrP fp p):=fun _ _ _ ⟨b,i,x,e,hb,h1,h3⟩ hg=>⟨b,i,x,e,hb,h1,keep_cell_chg hg h3 hb⟩
theorem stIntP (fp:List Nat) (p:Int->Prop):Stable fp (FIntP p):=fun _ _ _ h _=>h
end Go.Proofs.Ytmcjklicepaiaaa
