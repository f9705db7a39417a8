/-
 Texts of this claim laid together: Burst Slave.
-/
import Derived.Test.YtmcjklicepaiaaaPk09
import Derived.RegionTactic
import Derived.ChangeAlike
import Derived.WalkSmall
set_option linter.unusedVariables false
set_option linter.unusedSimpArgs false
namespace Go.Proofs.Ytmcjklicepaiaaa
open Go.RowKit
def bval (a m:Int) (wr:Bool) (i:Nat):Int:=if wr then a - a % m+(a+i) % m else a+i
def burst (a:Int) (m:Nat) (wr:Bool):List Int:=(List.range m).map fun (i:Nat)=>bval a m wr i
def adrBurst (a m:Int) (wr:Bool):List Int:=if adrOk a m wr then burst a m.toNat wr else []
theorem sval (a m:Int) (k:Nat) (wr:Bool):(if wr then a - a % m+((a - (a - a % m))+k) % m else a+k)=bval a m wr k:=by
 unfold bval;cases wr
 ·rfl
 ·simp only [if_true];have:(a - (a - a % m)+(k:Int)) % m=(a+k) % m:=by
   rw [show a - (a - a % m)+(k:Int)=a % m+k by omega,Int.emod_add_emod]
  rw [this]
theorem burst_succ (a:Int) (m k:Nat) (wr:Bool):((List.range k).map fun (i:Nat)=>bval a m wr i)++[bval a m wr k]=(List.range (k+1)).map fun (i:Nat)=>bval a m wr i:=by
 simp [List.range_succ]
theorem sAdrBurst_false (a:Int) (m:Nat) (h:adrOk a m false=true) (w:World) :
 Calls Try.prog 51 #[.int .i64 a,.int .i64 m,.bool false] w fun e w'=>∃ v fp,e = .returned v∧IntS w' (burst a m false) v fp∧New fp w w'∧Below w.heap.size w w':=by
 obtain ⟨i0,hi,hz0,hz1,hz2⟩:=info_parts infoInt;obtain ⟨a0,a1,hm,_⟩:=adrOk_true.1 h;have H:=Lib.hid h;clear h;have hm4:m<=4:=by omega
 have hm1:1<=m:=by omega
 have q0:0<=a % (m:Int):=Int.emod_nonneg _ (by omega);have q1:a % (m:Int)<m:=Int.emod_lt_of_pos _ (by omega);go_enter Try.func51,Try.ntmps51
 go_wp2_with fail
 refine (sAdrOk_any _ _ _ _).mono ?_;rw [H.out];rintro e w' ⟨rfl,rfl⟩;go_wp2_with fail
 go_loopw [7,9] (fun v i wr=>∃ k:Nat,k<=m∧i = .int .i64 k∧wr.ownsRow w.heap.size 3 1 v k (((List.range k).map fun (i:Nat)=>bval a m false i).map (Value.int .i64))∧Below w.heap.size w wr) (fun _ i _=>m - (intOf i).toNat)
 case atStart=>exact ⟨0,Nat.zero_le _,rfl,World.ownsRow_lit w #[] 0 (Nat.le_refl _) (by simp) rfl,below_alloc _ _⟩
 case round =>
  obtain ⟨k,hk,rfl,hown,hbel⟩:=hrel;have HO:=Lib.hid hown;have HB:=Lib.hid hbel;clear hown hbel;by_cases hlt:k<m
  ·have q2:0<=(a - (a - a % m)+k) % (m:Int):=Int.emod_nonneg _ (by omega);have q3:(a - (a - a % m)+k) % (m:Int)<m:=Int.emod_lt_of_pos _ (by omega);go_wp2_with (at_builtin;refine wpList_push rfl _ _ 24 3 i0 (.int .i64 0) 1 8 3 rfl Try.underlying24 hi hz0 hz1 hz2 rfl (by decide) (by decide) rfl rfl HO.out (news:=[.int .i64 (a+k)]) rfl (by simp [Value.oneCell']) (by omega) HB.out (Nat.le_refl _) HB.out.size ?_;intro v' w1 hown' hbel' hsz' _;have HO':=Lib.hid hown';have HB':=Lib.hid hbel';clear hown' hbel')
   go_roundw
   case rel =>
    have e:=sval a m k false;simp only [if_false,Bool.false_eq_true] at e;have ho:=HO'.out;rw [e,show ∀ l:List Int,l.map (Value.int .i64)++[.int .i64 (bval a m false k)]=(l++[bval a m false k]).map (Value.int .i64) from fun l=>by simp,burst_succ] at ho;exact ⟨k+1,by omega,by go_num,ho,HB'.out⟩
   case measure=>simp [intOf];omega
  ·obtain rfl:k=m:=by omega
   obtain ⟨fp',g1,g2,g3,g4⟩:=IntS.of_owns HO.out;have HG1:=Lib.hid g1;have HG2:=Lib.hid g2;have HG3:=Lib.hid g3;have HG4:=Lib.hid g4;clear g1 g2 g3 g4;go_wp2;go_ret;exact ⟨_,fp',rfl,HG1.out,⟨HG2.out,HG3.out,HG4.out⟩,HB.out⟩
theorem sAdrBurst_true (a:Int) (m:Nat) (h:adrOk a m true=true) (w:World) :
 Calls Try.prog 51 #[.int .i64 a,.int .i64 m,.bool true] w fun e w'=>∃ v fp,e = .returned v∧IntS w' (burst a m true) v fp∧New fp w w'∧Below w.heap.size w w':=by
 obtain ⟨i0,hi,hz0,hz1,hz2⟩:=info_parts infoInt;obtain ⟨a0,a1,hm,_⟩:=adrOk_true.1 h;have H:=Lib.hid h;clear h;have hm4:m<=4:=by omega
 have hm1:1<=m:=by omega
 have q0:0<=a % (m:Int):=Int.emod_nonneg _ (by omega);have q1:a % (m:Int)<m:=Int.emod_lt_of_pos _ (by omega);go_enter Try.func51,Try.ntmps51
 go_wp2_with fail
 refine (sAdrOk_any _ _ _ _).mono ?_;rw [H.out];rintro e w' ⟨rfl,rfl⟩;go_wp2_with fail
 go_loopw [7,9] (fun v i wr=>∃ k:Nat,k<=m∧i = .int .i64 k∧wr.ownsRow w.heap.size 3 1 v k (((List.range k).map fun (i:Nat)=>bval a m true i).map (Value.int .i64))∧Below w.heap.size w wr) (fun _ i _=>m - (intOf i).toNat)
 case atStart=>exact ⟨0,Nat.zero_le _,rfl,World.ownsRow_lit w #[] 0 (Nat.le_refl _) (by simp) rfl,below_alloc _ _⟩
 case round =>
  obtain ⟨k,hk,rfl,hown,hbel⟩:=hrel;have HO:=Lib.hid hown;have HB:=Lib.hid hbel;clear hown hbel;by_cases hlt:k<m
  ·have q2:0<=(a - (a - a % m)+k) % (m:Int):=Int.emod_nonneg _ (by omega);have q3:(a - (a - a % m)+k) % (m:Int)<m:=Int.emod_lt_of_pos _ (by omega);go_wp2_with (at_builtin;refine wpList_push rfl _ _ 24 3 i0 (.int .i64 0) 1 8 3 rfl Try.underlying24 hi hz0 hz1 hz2 rfl (by decide) (by decide) rfl rfl HO.out (news:=[.int .i64 (a - a % m+(a - (a - a % m)+k) % m)]) rfl (by simp [Value.oneCell']) (by omega) HB.out (Nat.le_refl _) HB.out.size ?_;intro v' w1 hown' hbel' hsz' _;have HO':=Lib.hid hown';have HB':=Lib.hid hbel';clear hown' hbel')
   go_roundw
   case rel =>
    have e:=sval a m k true;simp only [if_true] at e;have ho:=HO'.out;rw [e,show ∀ l:List Int,l.map (Value.int .i64)++[.int .i64 (bval a m true k)]=(l++[bval a m true k]).map (Value.int .i64) from fun l=>by simp,burst_succ] at ho;exact ⟨k+1,by omega,by go_num,ho,HB'.out⟩
   case measure=>simp [intOf];omega
  ·obtain rfl:k=m:=by omega
   obtain ⟨fp',g1,g2,g3,g4⟩:=IntS.of_owns HO.out;have HG1:=Lib.hid g1;have HG2:=Lib.hid g2;have HG3:=Lib.hid g3;have HG4:=Lib.hid g4;clear g1 g2 g3 g4;go_wp2;go_ret;exact ⟨_,fp',rfl,HG1.out,⟨HG2.out,HG3.out,HG4.out⟩,HB.out⟩
theorem sAdrBurst_no (a m:Int) (wr:Bool) (h:adrOk a m wr=false) (w:World) :
 Calls Try.prog 51 #[.int .i64 a,.int .i64 m,.bool wr] w fun e w'=>∃ v fp,e = .returned v∧IntS w' [] v fp∧New fp w w'∧Below w.heap.size w w':=by
 have H:=Lib.hid h;clear h;go_enter Try.func51,Try.ntmps51
 go_wp2_with fail
 refine (sAdrOk_any _ _ _ _).mono ?_;rw [H.out];rintro e w' ⟨rfl,rfl⟩;go_wp2;go_ret;exact ⟨_,[],rfl,⟨_,0,0,rfl,rfl,Nat.le_refl _,by simp,.inl ⟨rfl,rfl⟩⟩,New.nil _ _,below_alloc _ _⟩
theorem sAdrBurst_any (a m:Int) (wr:Bool) (w:World) :
 Calls Try.prog 51 #[.int .i64 a,.int .i64 m,.bool wr] w fun e w'=>∃ v fp,e = .returned v∧IntS w' (adrBurst a m wr) v fp∧New fp w w'∧Below w.heap.size w w':=by
 cases h:adrOk a m wr
 ·have e:adrBurst a m wr=[]:=by unfold adrBurst;rw [if_neg (by simp [h])]
  rw [e];exact sAdrBurst_no a m wr h w
 ·obtain ⟨_,_,hm,_⟩:=adrOk_true.1 h;obtain ⟨n,rfl⟩:=Int.eq_ofNat_of_zero_le (show 0<=m by omega);have e:adrBurst a n wr=burst a n wr:=by unfold adrBurst;rw [if_pos h];rfl
  rw [e];cases wr
  ·exact sAdrBurst_false a n h w
  ·exact sAdrBurst_true a n h w
theorem bval_in (a:Int) (m:Nat) (wr:Bool) (h:adrOk a m wr=true) (i:Nat) (hi:i<m):0<=bval a m wr i∧bval a m wr i<=63:=by
 obtain ⟨a0,a1,hm,hw⟩:=adrOk_true.1 h;unfold bval;cases wr
 ·simp only [Bool.false_eq_true,if_false,false_or] at hw ⊢;omega
 ·simp only [if_true];have hm':m=1∨m=2∨m=4:=by omega
  rcases hm' with rfl|rfl|rfl<;>simp<;>omega
theorem burst_at (a:Int) (m:Nat) (wr:Bool) (i:Nat) (hi:i<(burst a m wr).length):(burst a m wr)[i]=bval a m wr i:=by simp [burst]
theorem burst_len (a:Int) (m:Nat) (wr:Bool):(burst a m wr).length=m:=by simp [burst]
end Go.Proofs.Ytmcjklicepaiaaa
namespace Go.Proofs.Ytmcjklicepaiaaa
open Go.RowKit
def rix (l:List MR) (a:Int):Int:=idxOf (isIn a) l
theorem rix_hi {l:List MR} {a:Int} (h:0<=rix l a):(rix l a).toNat<l.length:=by
 obtain ⟨k,hk⟩:=Int.eq_ofNat_of_zero_le h;obtain ⟨h1,_⟩:=idxOf_at (k:=k) hk;rw [hk];exact h1
def wholeIx (l:List MR) (ads:List Int):Int:=match ads with
 | [] => -1
 | a::t=>if t.all (fun b=>rix l b == rix l a) then rix l a else -1
theorem wholeIx_all {l:List MR} {ads:List Int} {z:Int} (h:0<ads.length) (hz:∀ j (hj:j<ads.length),rix l ads[j]=z):wholeIx l ads=z:=by
 match ads,h with
 | a::t,_ =>
  have h0:rix l a=z:=hz 0 (by simp);dsimp only [wholeIx];rw [if_pos]
  ·exact h0
  ·rw [List.all_eq_true];intro b hb;obtain ⟨j,hj,rfl⟩:=List.mem_iff_getElem.1 hb;have:=hz (j+1) (by simp;omega);simp only [List.getElem_cons_succ] at this;simp [this,h0]
theorem wholeIx_ne {l:List MR} {ads:List Int} {k:Nat} (hk:k<ads.length) (h:rix l ads[k]≠rix l (ads[0]'(by omega))):wholeIx l ads = -1:=by
 match ads,hk with
 | a::t,hk =>
  dsimp only [wholeIx];rw [if_neg];intro hh;rw [List.all_eq_true] at hh;cases k with
  | zero=>exact h rfl
  | succ j =>
   simp only [List.getElem_cons_succ,List.getElem_cons_zero] at h;have:=hh (t[j]'(by simpa using hk)) (List.getElem_mem _);exact h (by simpa using this)
theorem wholeIx_hi {l:List MR} {ads:List Int} (h:0<=wholeIx l ads):(wholeIx l ads).toNat<l.length:=by
 unfold wholeIx at *
 split at h
 ·omega
 ·split at h
  ·rename_i hh
   rw [if_pos hh];exact rix_hi h
  ·omega
def burstOf (r:Req):List Int:=adrBurst r.addr r.many r.wrap
theorem adrBurst_len (a m:Int) (wr:Bool):(adrBurst a m wr).length<=4:=by
 unfold adrBurst
 split
 ·rename_i h
  obtain ⟨_,_,hm,_⟩:=adrOk_true.1 h;rw [burst_len];omega
 ·simp
set_option maxRecDepth 100000 in
set_option maxHeartbeats 3200000 in
theorem l1Whole_any (v:Value) (l:List MR) (fp:List Nat) (v2:Value) (ads:List Int) (fq:List Nat) (hle:ads.length<=4) (w:World) (g:SlR 4 mrR w l v fp) (h:IntS w ads v2 fq) :
 Calls Try.prog 50 #[v,v2] w fun e w'=>e = .returned (.int .i64 (wholeIx l ads))∧Below w.heap.size w w':=by
 obtain ⟨a2,n,c2,rfl,hn,hcap,hmax,hcm,rr⟩:=h.opened;have hle':n<=4:=by rw [<- hn.out];exact hle
 have G:=Lib.hid g;clear g h hle;by_cases h0:n=0
 ·subst h0;have he:ads=[]:=List.eq_nil_of_length_eq_zero hn.out;have HE:=Lib.hid he;clear rr he;go_enter Try.func50,Try.ntmps50
  go_wp2;go_ret;exact ⟨ret_int (by rw [HE.out];rfl),Below.refl _ _⟩
 ·have hnz:((n:Int) == 0)=false:=by rw [beq_eq_false_iff_ne];omega
  have hn0:0<n:=by omega
  have hn1:0<(n:Int):=by omega
  obtain ⟨i1,b1,o1,rfl,hb1,_,e1⟩:=rr 0 hn0;simp only [Nat.add_zero] at e1;obtain ⟨z,hz⟩:∃ z,rix l ads[0]=z:=⟨_,rfl⟩;have HZ:=Lib.hid hz;clear hz;go_enter Try.func50,Try.ntmps50
  go_wp2_with fail
  refine (l1Find_any _ l fp _ _ G.out).mono ?_;rw [show idxOf (isIn ads[0]) l=z from HZ.out];rintro e w1 ⟨rfl,m,hw⟩;have b:Below w.heap.size w w1:=by rw [hw];exact below_drewN (Below.refl _ _) m
  clear hw;have B:=Lib.hid b;replace G:=Lib.hid (SlR.below mrR_fits G.out b);clear b e1;go_wp2_with fail
  go_loopw [6] (fun i wr=>∃ k:Nat,1<=k∧k<=n∧i = .int .i64 k∧(∀ j (h:j<ads.length),j<k->rix l ads[j]=z)∧Below w1.heap.size w1 wr) (fun i _=>n - (intOf i).toNat)
  case atStart => exact ⟨1, by omega, by omega, rfl, fun j _ h => (by obtain rfl : j = 0 := by omega
                                                                      exact HZ.out), Below.refl _ _⟩
  case round =>
   obtain ⟨k,hk1,hk,rfl,hp,hb⟩:=hrel;have HP:=Lib.hid hp;have HB:=Lib.hid hb;clear hp;by_cases hlt:k<n
   ·obtain ⟨i2,b2,o2,e2,hb2,_,e3⟩:=rr k hlt;simp only [Option.some.injEq,Addr.mk.injEq,and_true] at e2;obtain ⟨rfl,rfl⟩:=e2;have c0:=keep_cell hb (keep_cell B.out e3);have GA:=Lib.hid (SlR.below mrR_fits G.out hb);clear rr e3 hb;go_wp2_with fail
    refine (l1Find_any _ l fp _ _ GA.out).mono ?_;rintro e w2 ⟨rfl,m2,hw⟩;have b2:Below wr.heap.size wr w2:=by rw [hw];exact below_drewN (Below.refl _ _) m2
    clear hw;have HB2:=Lib.hid (HB.out.trans (b2.mono HB.out.size));have HBw:=Lib.hid (B.out.trans (HB2.out.mono B.out.size));obtain ⟨q,hq⟩:∃ q,q=idxOf (isIn ads[k]) l:=⟨_,rfl⟩;rw [<- hq];have HQ:Hid (rix l ads[k]=q):=Lib.hid hq.symm;clear b2 hq;cases hqz:(q != z)
    ·have e:q=z:=by simpa using hqz
     have HE:=Lib.hid e;clear e;go_wp2
     go_roundw
     case rel=>exact ⟨k+1,by omega,by omega,by go_num,fun j h hj=>(by
      by_cases e:j=k
      ·subst e;rw [HQ.out,HE.out]
      ·exact HP.out j h (by omega)),HB2.out⟩
     case measure=>simp [intOf];omega
    ·have HE:=Lib.hid (show q≠z by simpa using hqz);go_wp2;go_ret;exact ⟨ret_int (wholeIx_ne i2 (by rw [HQ.out,HZ.out];exact HE.out)).symm,HBw.out⟩
   ·have HBw:=Lib.hid (B.out.trans (HB.out.mono B.out.size));clear rr hb;obtain rfl:k=n:=by omega
    go_wp2;go_ret;exact ⟨ret_int (wholeIx_all (by rw [hn.out];exact hn0) (fun j hj=>HP.out j hj (by rw [hn.out] at hj;exact hj))).symm,HBw.out⟩
end Go.Proofs.Ytmcjklicepaiaaa
