/-
 Texts of this claim laid together: Draw Meet Row.
-/
import Derived.Deep.QuietTactic
import Derived.BigQuiet
import Derived.WalkSmall
import Derived.Test.YtmcjklicepaiaaaPk10
import Derived.Deep.Cut
set_option linter.unusedVariables false
set_option linter.unusedSimpArgs false
namespace Go.Proofs.Ytmcjklicepaiaaa
open Go.RowKit Go.ChangeShapes
def byteR:Pr Int:=fun _ x cs fp=>cs=[.int .u8 x]∧0<=x∧x<=255∧fp=[]
theorem byteR_fits:Fits 1 byteR:=⟨fun h=>by rw [h.1];rfl,fun h b hb=>by rw [h.2.2.2] at hb;simp at hb,fun h _ _=>h⟩
abbrev ByteS:=SlR 1 byteR
theorem opens_byte {P:Program} {t:TypeId} (ht:P.underlying t=some (.int .u8)):Opens P t byteR:=fun h=>by
 obtain ⟨n,hcs,_,hw⟩:=DataW.trod_int ht h;have hb:0<=n∧n<=255:=by simpa [Lit.wf,IntKind.min,IntKind.max,IntKind.signed,IntKind.bits] using hw
 exact ⟨n,[],hcs,hb.1,hb.2,rfl⟩
def RdAt (w:World) (rb:Nat) (fq:List Nat) (N:Int):Prop :=
 ∃ (l:List Int) (v:Value) (p:Int),w.cell? ⟨rb,0,none⟩=some v∧ByteS w l v fq∧rb∉fq∧l.length<=2000∧w.cell? ⟨rb,1,none⟩=some (.int .i64 p)∧0<=p∧p<=N∧w.frozen? ⟨rb,1,none⟩=false
theorem RdAt.lt {w:World} {rb:Nat} {fq:List Nat} {N:Int} (h:RdAt w rb fq N):rb<w.heap.size:=by
 obtain ⟨l,v,p,h0,_⟩:=h;exact block_of_cell h0
theorem RdAt.chg {w w':World} {rb:Nat} {fq fp:List Nat} {N:Int} (h:RdAt w rb fq N) (hc:Chg fp w w') (h1:rb∉fp) (h2:∀ b,b∈fq->b∉fp):RdAt w' rb fq N:=by
 have hlt:=h.lt;obtain ⟨l,v,p,h0,hb,hn,hl,hp,p0,p1,hf⟩:=h;exact ⟨l,v,p,keep_cell_chg hc h0 h1,hb.chg byteR_fits hc h2,hn,hl,keep_cell_chg hc hp h1,p0,p1,(World.frozen?_of_block (hc.block rb hlt h1)).trans hf⟩
theorem RdAt.below {w w':World} {rb:Nat} {fq:List Nat} {N:Int} (h:RdAt w rb fq N) (hc:Below w.heap.size w w'):RdAt w' rb fq N :=
 h.chg (hc.chg []) (by simp) (fun _ _=>by simp)
theorem RdAt.low {w w':World} {rb:Nat} {fq:List Nat} {N:Int} {B:Nat} (h:RdAt w rb fq N) (hb:Below B w w') (h1:rb<B) (h2:∀ b,b∈fq->b<B):RdAt w' rb fq N:=by
 obtain ⟨l,v,p,h0,hs,hn,hl,hp,p0,p1,hf⟩:=h;have e:w'.heap[rb]?=w.heap[rb]?:=hb.block rb h1;exact ⟨l,v,p,(World.cell?_of_block e).trans h0,hs.same byteR_fits (fun b hb'=>hb.block b (h2 b hb')) hb.size,hn,hl,(World.cell?_of_block e).trans hp,p0,p1,(World.frozen?_of_block e).trans hf⟩
theorem RdAt.mono {w:World} {rb:Nat} {fq:List Nat} {N M:Int} (h:RdAt w rb fq N) (hm:N<=M):RdAt w rb fq M:=by
 obtain ⟨l,v,p,h0,hb,hn,hl,hp,p0,p1,hf⟩:=h;exact ⟨l,v,p,h0,hb,hn,hl,hp,p0,by omega,hf⟩
theorem bits_xor_nat (a b:Nat) (ha:a<2 ^ 63) (hb:b<2 ^ 63):bits .xor .i64 (a:Int) (b:Int)=((a ^^^ b:Nat):Int):=by
 have hx:a ^^^ b<2 ^ 63:=Nat.xor_lt_two_pow ha hb;have e:∀ c:Nat,c<2 ^ 63->(BitVec.ofInt 64 (c:Int)).toNat=c:=fun c hc=>by
  rw [BitVec.ofInt_natCast,BitVec.toNat_ofNat];exact Nat.mod_eq_of_lt (by omega)
 show IntKind.i64.wrap ((BitVec.ofInt 64 (a:Int) ^^^ BitVec.ofInt 64 (b:Int)).toNat:Int)=_
 rw [BitVec.toNat_xor,e a ha,e b hb,IntKind.wrap_i64];omega
theorem xor_pos (a b:Int) (ha:0<=a) (ha':a<=4611686018427387904) (hb:0<=b) (hb':b<=4611686018427387904):0<=bits .xor .i64 a b:=by
 obtain ⟨n,rfl⟩:=Int.eq_ofNat_of_zero_le ha;obtain ⟨m,rfl⟩:=Int.eq_ofNat_of_zero_le hb;rw [bits_xor_nat n m (by omega) (by omega)];omega
theorem pick_any (rb:Nat) (fq:List Nat) (N n:Int) (hn:1<=n) (hn':n<=1000000) (hN:N<=1000000000) (w:World) (h:RdAt w rb fq N) :
 Calls Try.prog 66 #[.pointer (some ⟨rb,0,none⟩),.int .i64 n] w fun e w'=>∃ x:Int,e = .returned (.int .i64 x)∧0<=x∧x<n∧RdAt w' rb fq (N+1)∧Chg [rb] w w':=by
 have hlt:=h.lt;obtain ⟨l,v,p,h0,hb,hnf,hl,hp,p0,p1,hf⟩:=h;have hC:Chg [rb] w (w.setCell ⟨rb,1,none⟩ (.int .i64 (p+1))):=⟨rfl,rfl,rfl,by simp,fun k _ hk=>Below.heap_setCell _ _ _ _ (fun e=>hk (by simp [e]))⟩;have hb':=hb.chg byteR_fits hC (fun b hb e=>hnf (by simp at e;rwa [<- e]));have hR:RdAt (w.setCell ⟨rb,1,none⟩ (.int .i64 (p+1))) rb fq (N+1) :=
  ⟨l,v,p+1,(World.cell?_setCell_other _ _ _ _ (by simp)).trans h0,hb',hnf,hl,World.cell?_setCell_same _ _ _ hp,by omega,by omega,(World.frozen?_setCell _ _ _ _).trans hf⟩
 obtain ⟨a,len,cap,rfl,hlen,hcap,hmax,hcm,r⟩:=hb'.opened;have hlen':len<=2000:=by rw [<- hlen.out];exact hl
 have HC:=Lib.hid hC;have HR:=Lib.hid hR;clear hC hR hb hb' hnf hl;have hx:¬ n<1:=by omega
 by_cases hz:len=0
 ·subst hz;clear r;go_enter Try.func66,Try.ntmps66
  go_wp2;go_ret;exact ⟨0,rfl,by omega,by omega,HR.out,HC.out⟩
 ·by_cases hk:p<len
  ·obtain ⟨q,rfl⟩:=Int.eq_ofNat_of_zero_le p0;obtain ⟨i1,b1,o1,f1,cs1,rfl,hb1,_,_,⟨rfl,x0,x1,rfl⟩,e1⟩:=r q (by omega);have e1':=e1 0 (by simp);simp only [Nat.mul_one,Nat.add_zero,List.getElem_cons_zero] at e1';clear r e1;go_enter Try.func66,Try.ntmps66
   go_wp2;go_ret;exact ⟨l[q] % n,rfl,Int.emod_nonneg _ (by omega),Int.emod_lt_of_pos _ (by omega),HR.out,HC.out⟩
  ·obtain ⟨q,rfl⟩:=Int.eq_ofNat_of_zero_le p0;have j1:q % len<len:=Nat.mod_lt _ (by omega);have j2:(q*7+3) % len<len:=Nat.mod_lt _ (by omega);obtain ⟨i1,b1,o1,f1,cs1,rfl,hb1,_,_,⟨rfl,x0,x1,rfl⟩,e1⟩:=r _ j1;obtain ⟨i2,b2,o2,f2,cs2,hab,hb2,_,_,⟨rfl,y0,y1,rfl⟩,e2⟩:=r _ j2;simp only [Option.some.injEq,Addr.mk.injEq,and_true] at hab;obtain ⟨rfl,rfl⟩:=hab;have e1':=e1 0 (by simp);have e2':=e2 0 (by simp);simp only [Nat.mul_one,Nat.add_zero,List.getElem_cons_zero] at e1' e2';clear r e1 e2;have k1:(q:Int) % len<len:=Int.emod_lt_of_pos _ (by omega);have k2:((q:Int)*7+3) % len<len:=Int.emod_lt_of_pos _ (by omega);have k3:0<=(q:Int) % len:=Int.emod_nonneg _ (by omega);have k4:0<=((q:Int)*7+3) % len:=Int.emod_nonneg _ (by omega);have hz':((len:Int) == 0)=false:=by simpa using hz
   have hd0:0<=(q:Int) / len:=by apply Int.ediv_nonneg<;>omega
   have hd1:(q:Int) / len<=q:=Int.ediv_le_self _ (by omega);go_enter Try.func66,Try.ntmps66
   go_wp2_with fail
   go_quiet (fail)
   go_wp2_with fail
   go_ret;refine ⟨_,rfl,?_,?_,?_,?_⟩
   ·first
     | exact Int.emod_nonneg _ (by omega)
     | exact Int.tmod_nonneg _ (xor_pos _ _ (by omega) (by omega) (by omega) (by omega))
   ·first
     | exact Int.emod_lt_of_pos _ (by omega)
     | exact Int.tmod_lt_of_pos _ (by omega)
   ·obtain ⟨l',v',p',s0,s1,s2,s3,s4,s5,s6,s7⟩:=HR.out;exact ⟨l',v',p',s0,s1.same byteR_fits (fun _ _=>rfl) (Nat.le_refl _),s2,s3,s4,s5,s6,s7⟩
   ·exact HC.out.drewN _
theorem odd_any (rb:Nat) (fq:List Nat) (N n:Int) (hn:1<=n) (hn':n<=1000000) (hN:N<=1000000000) (w:World) (h:RdAt w rb fq N) :
 Calls Try.prog 73 #[.pointer (some ⟨rb,0,none⟩),.int .i64 n] w fun e w'=>RetBool e∧RdAt w' rb fq (N+1)∧Chg [rb] w w':=by
 have H:=Lib.hid h;clear h;by_cases h9:n<9000
 ·go_enter Try.func73,Try.ntmps73
  go_wp2_with fail
  refine (pick_any rb fq N n hn hn' hN _ H.out).mono ?_;rintro e w' ⟨x,rfl,x0,x1,h1,h2⟩;have H1:=Lib.hid h1;have H2:=Lib.hid h2;clear h1 h2;go_wp2;go_ret;exact ⟨⟨_,rfl⟩,H1.out,H2.out⟩
 ·go_enter Try.func73,Try.ntmps73
  go_wp2;go_ret;exact ⟨⟨_,rfl⟩,H.out.mono (by omega),Chg.refl _ _⟩
theorem l20Open_any (v:Value) (l:List Int) (fq:List Nat) (w:World) (g:ByteS w l v fq) :
 Calls Try.prog 43 #[v] w fun e w'=>∃ (rb:Nat) (fp:List Nat),e = .returned (.pointer (some ⟨rb,0,none⟩))∧w.heap.size<=rb∧(∀ b,b∈fp->b<w.heap.size)∧RdAt w' rb fp 0∧Below w.heap.size w w':=by
 have fl:=g.lt byteR_fits;obtain ⟨a,len,cap,rfl,hlen,hcap,hmax,hcm,r⟩:=g.opened;have G:=Lib.hid g;have FL:=Lib.hid fl;clear g r fl;by_cases h:2000<len
 all_goals
  go_enter Try.func43,Try.ntmps43
  go_wp2;go_ret
 ·obtain ⟨fp,hs,hsub⟩:=G.out.take 2000 (by omega);refine ⟨w.heap.size,fp,rfl,Nat.le_refl _,fun b hb=>FL.out b (hsub b hb),?_,below_alloc _ _⟩;refine ⟨l.take 2000,.slice a 2000 cap,0,?_,hs.alloc byteR_fits _,fun hm=>by have:=FL.out _ (hsub _ hm);omega,by simp;omega,?_,by omega,by omega,?_⟩
  ·rw [World.cell?_alloc_at _ _ _ _ rfl];rfl
  ·rw [World.cell?_alloc_at _ _ _ _ rfl];rfl
  ·exact World.frozen?_alloc_at _ _ _ _ rfl
 ·refine ⟨w.heap.size,fq,rfl,Nat.le_refl _,FL.out,?_,below_alloc _ _⟩;refine ⟨l,.slice a len cap,0,?_,G.out.alloc byteR_fits _,fun hm=>by have:=FL.out _ hm;omega,by rw [hlen.out];omega,?_,by omega,by omega,?_⟩
  ·rw [World.cell?_alloc_at _ _ _ _ rfl];rfl
  ·rw [World.cell?_alloc_at _ _ _ _ rfl];rfl
  ·exact World.frozen?_alloc_at _ _ _ _ rfl
end Go.Proofs.Ytmcjklicepaiaaa
namespace Go.Proofs.Ytmcjklicepaiaaa
open Go.RowKit
theorem isMaster_any (x:Int) (w:World):Calls Try.prog 68 #[.int .i64 x] w fun e w'=>e = .returned (.bool (inB x 0 2))∧w=w':=by
 go_enter Try.func68,Try.ntmps68
 go_wp2_with fail
 refine (in_any _ _ _ _).mono ?_;rintro e w' ⟨rfl,rfl⟩;go_wp2;go_ret;exact ⟨rfl,rfl⟩
end Go.Proofs.Ytmcjklicepaiaaa
namespace Go.Proofs.Ytmcjklicepaiaaa
open Go.RowKit
theorem flat_len {α:Type} {K:Nat} {c:α->List Value} (hk:∀ x,(c x).length=K) (l:List α):(l.flatMap c).length=l.length*K:=by
 induction l with
 | nil=>simp
 | cons x l ih=>rw [List.flatMap_cons,List.length_append,ih,hk,List.length_cons,Nat.succ_mul,Nat.add_comm]
theorem flat_at {α:Type} {K:Nat} {c:α->List Value} (hk:∀ x,(c x).length=K) (l:List α):∀ i (hi:i<l.length) j (hj:j<(c l[i]).length),(l.flatMap c)[i*K+j]?=some (c l[i])[j]:=by
 induction l with
 | nil=>intro i hi;simp at hi
 | cons x l ih =>
  intro i hi j hj;rw [List.flatMap_cons];cases i with
  | zero =>
   simp only [List.getElem_cons_zero] at hj ⊢;rw [Nat.zero_mul,Nat.zero_add,List.getElem?_append_left (by simpa using hj)];exact List.getElem?_eq_getElem _
  | succ i =>
   simp only [List.getElem_cons_succ] at hj ⊢;rw [List.getElem?_append_right (by rw [hk,Nat.succ_mul];omega),hk,Nat.succ_mul,show i*K+K+j - K=i*K+j by omega];exact ih i (by simpa using hi) j hj
theorem Chg.under {fp:List Nat} {a b:World} {B:Nat} (h:Chg fp a b) (hB:B<=a.heap.size) (hl:∀ k,k∈fp->B<=k):Below B a b :=
 ⟨h.os,h.tape,h.output,h.size,fun k hk=>h.block k (by omega) (fun hm=>by have:=hl k hm;omega)⟩
theorem putCells_out {g:Nat} (cs:List Value):∀ (w:World) (i q:Nat),(q<i∨i+cs.length<=q)->(putCells g w i cs).cell? ⟨g,q,none⟩=w.cell? ⟨g,q,none⟩:=by
 induction cs with
 | nil=>intro w i q _;rfl
 | cons c cs ih =>
  intro w i q h;simp only [List.length_cons] at h;rw [putCells,ih _ _ _ (by omega)];exact World.cell?_setCell_other _ _ _ _ (fun e=>by injection e;omega)
theorem putCells_in {g:Nat} (cs:List Value):∀ (w:World) (i j:Nat) (hj:j<cs.length),(∀ q,q<cs.length->∃ x,w.cell? ⟨g,i+q,none⟩=some x)->(putCells g w i cs).cell? ⟨g,i+j,none⟩=some cs[j]:=by
 induction cs with
 | nil=>intro w i j hj _;simp at hj
 | cons c cs ih =>
  intro w i j hj h;simp only [List.length_cons] at hj h;cases j with
  | zero =>
   rw [putCells,putCells_out _ _ _ _ (.inl (by omega))];obtain ⟨x,hx⟩:=h 0 (by omega);exact World.cell?_setCell_same _ _ _ hx
  | succ j =>
   rw [putCells,show i+(j+1)=i+1+j by omega];refine ih _ _ _ (by omega) fun q hq=>?_;obtain ⟨x,hx⟩:=h (q+1) (by omega);refine ⟨x,(World.cell?_setCell_other _ _ _ _ (fun e=>by injection e;omega)).trans ?_⟩;rw [show i+1+q=i+(q+1) by omega];exact hx
theorem putCells_free {g:Nat} {fp:List Nat} (cs:List Value):∀ (w:World) (i:Nat),Free fp w->Free fp (putCells g w i cs):=by
 induction cs with
 | nil=>intro w i h;exact h
 | cons c cs ih=>intro w i h;exact ih _ _ (h.setCell _ _)
theorem putCells_chg {g:Nat} {fp:List Nat} (hg:g∈fp) (cs:List Value) (w:World) (i:Nat):Chg fp w (putCells g w i cs):=by
 induction cs generalizing w i with
 | nil=>exact Chg.refl _ _
 | cons c cs ih =>
  have h1:Chg fp w (w.setCell ⟨g,i,none⟩ c):=⟨rfl,rfl,rfl,by simp,fun k _ hk=>Below.heap_setCell _ _ _ _ (fun e=>hk (by rw [e];exact hg))⟩;exact h1.trans' (ih _ _)
theorem SlR.put {α:Type} {K:Nat} {c:α->List Value} (hk:∀ x,(c x).length=K) {w:World} {l:List α} {a:Option Addr} {n cap b off:Nat} {fp:List Nat} (h:SlR K (fun _ x cs fp=>cs=c x∧fp=[]) w l (.slice a n cap) fp) (ha:a=some ⟨b,off,none⟩) {i:Nat} (hi:i<n) (x:α) :
 SlR K (fun _ x cs fp=>cs=c x∧fp=[]) (putCells b w (off+i*K) (c x)) (l.set i x) (.slice a n cap) fp∧Chg fp w (putCells b w (off+i*K) (c x))∧b∈fp:=by
 obtain ⟨a',n',cap',e,hn,hcap,hcm,⟨rfl,rfl⟩|⟨b',off',fps,rfl,hb,rfl,hf,hc⟩⟩:=h
 ·simp only [Value.slice.injEq] at e;obtain ⟨_,rfl,_⟩:=e;simp at hn;omega
 ·simp only [Value.slice.injEq] at e;obtain ⟨e1,rfl,rfl⟩:=e;subst ha;simp only [Option.some.injEq,Addr.mk.injEq,and_true] at e1;obtain ⟨rfl,rfl⟩:=e1;refine ⟨⟨_,n,cap,rfl,by simpa using hn,hcap,hcm,.inr ⟨b,off,fps,rfl,by rw [putCells_size];exact hb,rfl,by simpa using hf,fun j h h'=>?_⟩⟩,putCells_chg (List.mem_cons_self ..) _ _ _,List.mem_cons_self ..⟩;have hj:j<l.length:=by simpa using h
  obtain ⟨cs,⟨rfl,hfj⟩,hcell⟩:=hc j hj h';refine ⟨c ((l.set i x)[j]),⟨rfl,hfj⟩,fun q hq=>?_⟩;have hqK:q<K:=by rw [hk] at hq;exact hq
  by_cases hji:i=j
  ·subst hji;have:=putCells_in (g:=b) (c x) w (off+i*K) q (by rw [hk];exact hqK) (fun q' hq'=>⟨_,hcell q' (by rw [hk] at hq' ⊢;exact hq')⟩);rw [this];simp
  ·rw [putCells_out _ _ _ _ (by
    rw [hk];rcases Nat.lt_or_gt_of_ne hji with h1|h1
    ·right;have:(i+1)*K<=j*K:=Nat.mul_le_mul_right K (by omega);rw [Nat.succ_mul] at this;omega
    ·left;have:(j+1)*K<=i*K:=Nat.mul_le_mul_right K (by omega);rw [Nat.succ_mul] at this;omega)]
   rw [hcell q (by rw [hk];exact hqK)];simp [hji]
end Go.Proofs.Ytmcjklicepaiaaa
