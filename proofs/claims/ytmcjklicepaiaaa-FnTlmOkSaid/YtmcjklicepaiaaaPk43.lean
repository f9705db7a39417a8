/-
 Texts of this claim laid together: DBus.
-/
import Derived.Test.YtmcjklicepaiaaaPk28
import Derived.Test.YtmcjklicepaiaaaPk42
set_option linter.unusedVariables false
set_option linter.unusedSimpArgs false
namespace Go.Proofs.Ytmcjklicepaiaaa
def tbl20Bus17:List (List Nat):=[[],[0],[],[],[3],[3,4],[2,3,4,5],[2,3,4,5,6],[0,1,2,3,4,5,6,7],[0,1,2,3,4,5,6,7,8],[0,1,2,3,4,5,6,7,8,9]]
open Go.RowKit Go.ChangeShapes Go.WideShapes
theorem infoReq:(Try.prog.info? 26).map (fun i=>(i.zero,i.size,i.bytes))=some (some (.agg #[.int .i64 0,.int .i64 0,.int .i64 0,.int .i64 0,.bool false,.slice none 0 0,.slice none 0 0]),7,88):=by kernel_rfl
theorem infoReqs:(Try.prog.info? 41).map (fun i=>(i.zero,i.size,i.bytes))=some (some (.slice none 0 0),1,24):=by kernel_rfl
theorem alloc1_news (w:World) (cs:List Value) (t:TypeId) (j:Nat) (hj:j<cs.length):(w.alloc (.cells cs.toArray t)).cell? ((⟨w.heap.size,0,none⟩:Addr).add j)=some cs[j]:=by
 rw [add_plain,Nat.zero_add];exact alloc1_new w _ _ j (by rw [List.getElem?_toArray];exact List.getElem?_eq_getElem hj)
def FOne (u:Value):Fact:=fun v w=>∃ b:Nat,v = .slice (some ⟨b,0,none⟩) 1 1∧w.cell? ⟨b,0,none⟩=some u
theorem stOne (u:Value):Stable [] (FOne u):=fun _ _ _ ⟨b,e,h⟩ hc=>⟨b,e,keep_cell_chg hc h (by simp)⟩
theorem hold_fit {x:Req} (h:reqFit x) {L:List Nat} {T:Tab} {w:World}:UnitOk gFit L T w 2 [.int .i64 x.id,.int .i64 3,.int .i64 x.addr,.int .i64 1,.bool false,.slice none 0 0,.slice none 0 0] :=
 ⟨⟨x.id,3,x.addr,1,false,[],[]⟩,[],⟨.slice none 0 0,.slice none 0 0,[],[],rfl,rfl,⟨none,0,0,rfl,rfl,Nat.le_refl _,Nat.zero_le _,.inl ⟨rfl,rfl⟩⟩,⟨none,0,0,rfl,rfl,Nat.le_refl _,Nat.zero_le _,.inl ⟨rfl,rfl⟩⟩⟩,⟨h.1,h.2.1,fun _ _ h3=>absurd rfl h3⟩,Fz.nil _ _ _⟩
set_option maxRecDepth 100000 in
set_option maxHeartbeats 6400000 in
theorem l20Bus_any (L0:List Nat) (rb:Nat) (fq:List Nat) (N n:Int) (hn:0<=n) (hn':n<=20) (hN:N<=900000000) (T0:Tab) (w:World) (hrb:rb∈L0) (hfq:∀ b,b∈fq->b∈L0) (h:RdAt w rb fq N) (hT:TH gFit L0 T0 w) :
 Calls Try.prog 107 #[.pointer (some ⟨rb,0,none⟩),.int .i64 n] w fun e w'=>∃ T lm fm va vn vc la lc pa pc,BusPost gFit L0 rb fq T0 w (N+200000) e w' T lm fm va vn vc la 4 lc pa 3 pc∧lm.length<=7:=by
 have hlt:=h.lt;have HRB:=Lib.hid hrb;have HFQ:=Lib.hid hfq;have FL:=Lib.hid h.old;obtain ⟨w1,hw1⟩:∃ z,z=w.alloc (.cells #[.slice none 0 0,.slice none 0 0,.slice none 0 0] 38):=⟨_,rfl⟩;have b1:Below w.heap.size w w1:=by rw [hw1];exact below_alloc _ _
 have z1:w1.heap.size=w.heap.size+1:=by rw [hw1];simp
 have r0:w1.cell? ⟨w.heap.size,0,none⟩=some (.slice none 0 0):=by rw [hw1];exact alloc1_new _ _ _ 0 rfl
 have r1:w1.cell? ⟨w.heap.size,1,none⟩=some (.slice none 0 0):=by rw [hw1];exact alloc1_new _ _ _ 1 rfl
 have r2:w1.cell? ⟨w.heap.size,2,none⟩=some (.slice none 0 0):=by rw [hw1];exact alloc1_new _ _ _ 2 rfl
 have rf:∀ o,w1.frozen? ⟨w.heap.size,o,none⟩=false:=fun o=>by rw [hw1];exact alloc1_free _ _ _ _
 have HT1:=Lib.hid (hT.opened b1 (Nat.le_refl _) (by omega));have H1:=Lib.hid (h.below b1);have HB1:=Lib.hid b1;clear h hT hrb hfq b1;obtain ⟨i0,ki,kz0,kz1,kz2⟩:=info_parts infoReq;go_enter Try.func107,Try.ntmps107
 go_upto_region 1 with fail
 rw [<- hw1];clear hw1;go_wp2_with fail
 refine (l20Map_any rb fq N 99999 (by omega) (by omega) (by omega) _ H1.out (fun b hb=>by have:=FL.out b hb;omega)).mono ?_;rintro e w2 ⟨vm,lm,rfl,hmr,hml,h2,c2⟩;obtain ⟨fm,hms,hfm,-⟩:∃ fp,SlR 4 mrR w2 lm vm fp∧(∀ b,b∈fp->w1.heap.size<=b)∧fp.Nodup∧Free fp w2:=OwnR.reads MrC_len hmr;obtain ⟨va,vn,vc,rfl⟩:=hms.form;have z2:=c2.size;have bx1:w.heap.size<w2.heap.size:=by omega
 have HC:Hid (BusC (w2.heap.size::w.heap.size::L0) rb w2.heap.size w.heap.size fq w):=Lib.hid ⟨by simp [HRB.out],by simp,by simp,fun b hb=>by simp [HFQ.out b hb],by omega,by omega,by omega,fun hm=>by have:=FL.out _ hm;omega,fun hm=>by have:=FL.out _ hm;omega,by omega,Nat.le_refl _⟩;have hq2:∀ b,b∈[rb]->b∈w.heap.size::L0:=fun b hb=>by simp at hb;subst hb;simp [HRB.out]
 have ht2:=HT1.out.chg c2 hq2;have bb:=below_alloc w2 (.cells #[.slice va vn vc,.slice none 0 0,.slice none 0 0] 38);have hF:Fz (w.heap.size::L0) T0 w2 fm:=Fz.new HT1.out c2 hfm (fun b hb=>hms.lt mrR_fits b hb);have hF3:Fz (w2.heap.size::w.heap.size::L0) T0 (w2.alloc (.cells #[.slice va vn vc,.slice none 0 0,.slice none 0 0] 38)) fm:=fun b hb=>by
  obtain ⟨g1,g2,g3⟩:=hF b hb;exact ⟨g1,by simp only [List.mem_cons,not_or] at g2 ⊢;exact ⟨by omega,g2⟩,by simp;omega⟩
 have hnr:w.heap.size∉[rb]:=by simp;omega
 have HBA:Hid (BusAt gFit (w2.heap.size::w.heap.size::L0) rb w2.heap.size w.heap.size fq T0 w (N+1000) lm fm (.slice va vn vc) T0 (w2.alloc (.cells #[.slice va vn vc,.slice none 0 0,.slice none 0 0] 38)) none 0 0 none 0 0):=Lib.hid
  ⟨ht2.opened bb (Nat.le_refl _) (by simp),Step.of_chg (((HB1.out.chg [rb]).trans' c2).trans' (bb.chg [rb])),h2.below bb,hms.below mrR_fits bb,hF3,SlA.nil _ _,SlA.nil _ _,alloc1_new _ _ _ 0 rfl,alloc1_new _ _ _ 1 rfl,alloc1_new _ _ _ 2 rfl,fun o=>alloc1_free _ _ _ _,
   ⟨_,alloc_keep (keep_cell_chg c2 r0 hnr) _⟩,⟨_,alloc_keep (keep_cell_chg c2 r1 hnr) _⟩,⟨_,alloc_keep (keep_cell_chg c2 r2 hnr) _⟩,fun o=>keep_free bb (show w.heap.size<w2.heap.size by omega) ((World.frozen?_of_block (c2.block w.heap.size (by omega) hnr)).trans (rf o))⟩
 have HML:=Lib.hid hml;have HHS:Hid (∀ b,b∈L0->b∈w2.heap.size::w.heap.size::L0):=Lib.hid (fun b hb=>by simp [hb]);clear hmr hms hfm hF hF3 ht2 bb hq2 r0 r1 r2 rf H1 HT1 HB1 h2 c2 hnr hml;go_wp2_with fail
 generalize hbx:w2.heap.size=bx at *;generalize hcx:w.heap.size=cx at *;obtain ⟨L,hL⟩:∃ z,z=bx::cx::L0:=⟨_,rfl⟩;rw [<- hL] at HC HBA HHS;obtain ⟨i1,li,lz0,lz1,lz2⟩:=info_parts infoInt;obtain ⟨i2,pi,pz0,pz1,pz2⟩:=info_parts infoReqs;have nbx:bx∉[rb]:=by simpa using HC.out.n1
 go_loopw [6] (fun i wr=>∃ (k:Nat) (T:Tab) (la:Option Addr) (lc:Nat),k<=4∧i = .int .i64 k∧BusAt gFit L rb bx cx fq T0 w (N+1000+20*k) lm fm (.slice va vn vc) T wr la k lc none 0 0) (fun i _=>4 - (intOf i).toNat)
 case atStart=>exact ⟨0,T0,none,0,by omega,rfl,HBA.out.mono (by omega)⟩
 case round =>
  obtain ⟨k,T,la,lc,hk,rfl,hba⟩:=hrel;have HB:=Lib.hid hba;clear hba HBA;by_cases hlt4:k<=3
  ·have hlt4i:(k:Int)<=3:=by omega
   have c1:=HB.out.c1;have HR:=Lib.hid HB.out.rd;go_wp2_with fail
   have hst:∀ F,F∈[FEq (.pointer (some ⟨bx,1,none⟩)),FEq (.slice la k lc),FEq (.pointer (some ⟨rb,0,none⟩)),FInt (0) (3),FSl [rb] 1 (0) (3)]->Stable [rb] F:=by
    simp only [List.forall_mem_cons];exact ⟨stEq _ _,stEq _ _,stEq _ _,stInt _ _ _,stSl _ _ _ _,fun _ h=>by simp at h⟩
   refine wp_region_tail (by kernel_rfl) (fun i=>([[],[0],[],[2],[2,3],[0,1,2,3,4],[0,1,2,3,4,5],[0,1,2,3,4,5,6]]:List (List Nat)).getD i []) (facts [FEq (.pointer (some ⟨bx,1,none⟩)),FEq (.slice la k lc),FEq (.pointer (some ⟨rb,0,none⟩)),FInt (0) (3),FSl [rb] 1 (0) (3)]) (fun m w'=>RdAt w' rb fq ((N+1000+20*(k:Int))+1*m)∧Chg [rb] wr w') 76 8 5 [some 18,some 19,some 20,some 21,some 22] _ rfl rfl (by decide) rfl rfl (by kernel_rfl) (by kernel_rfl) [] (by kernel_rfl) (fun g b hm v w h=>by simp at hm) ?h0 (all_lt (n:=5) ?hop) ?hend
   case h0=>exact ⟨(HR.out.below (Below.refl _ _).drew).mono (by omega),(Chg.refl _ _).drewN 1⟩
   case hop =>
    refine ⟨⟨⟨⟨⟨trivial,?_⟩,?_⟩,?_⟩,?_⟩,?_⟩
    ·refine Owes.mk _ rfl rfl (fun _ _ h=>by cases h) fun u m w' hm ⟨hI,hc⟩ hR=>⟨⟨(frm 76 [(5,.pointer (some ⟨bx,0,none⟩))]).toArray,[]⟩,rfl,fun d hd=>by cases hd;exact frm_lt (by decide),?_⟩;dsimp only [frm,List.foldl,List.replicate,List.set];have hm:m<8:=hm;clear hR;have k0:=keep_cell_chg hc c1 nbx;clear hst;go_wp2;exact ⟨rfl,_,rfl,rfl,⟨hI.mono (by omega),hc⟩,fun _ _ h=>h⟩
    ·refine Owes.mk _ rfl rfl (fun _ _ h=>by cases h) fun u m w' hm ⟨hI,hc⟩ hR=>⟨⟨(frm 76 [(18,u 0)]).toArray,[]⟩,rfl,fun d hd=>by cases hd;exact frm_lt (by decide),?_⟩;dsimp only [frm,List.foldl,List.replicate,List.set];have hm:m<8:=hm;have ev0:u 0=_:=hR 0 (by decide);clear hR;rw [ev0];have k0:=keep_cell_chg hc c1 nbx;clear hst;go_wp2;exact ⟨rfl,_,rfl,rfl,⟨hI.mono (by omega),hc⟩,fun _ _ h=>h⟩
    ·refine Owes.mk _ rfl rfl (fun _ _ h=>by cases h) fun u m w' hm ⟨hI,hc⟩ hR=>⟨⟨(frm 76 [(0,.pointer (some ⟨rb,0,none⟩))]).toArray,[]⟩,rfl,fun d hd=>by cases hd;exact frm_lt (by decide),?_⟩;dsimp only [frm,List.foldl,List.replicate,List.set];have hm:m<8:=hm;clear hR;go_wp2;exact ⟨rfl,_,rfl,rfl,⟨hI.mono (by omega),hc⟩,fun _ _ h=>h⟩
    ·refine Owes.mk _ rfl rfl (fun _ _ h=>by cases h) fun u m w' hm ⟨hI,hc⟩ hR=>⟨⟨(frm 76 [(20,u 2)]).toArray,[]⟩,rfl,fun d hd=>by cases hd;exact frm_lt (by decide),?_⟩;dsimp only [frm,List.foldl,List.replicate,List.set];have hm:m<8:=hm;have ea0:u 2=_:=hR 2 (by decide);clear hR;rw [ea0];go_wp2_with fail
     refine (pick_any rb fq ((N+1000+20*(k:Int))+1*m) 4 (by omega) (by omega) (by omega) _ hI).mono ?_;rintro e w2 ⟨x,rfl,lo,hi,g1,g2⟩;have hs:=facts_stable hst g2;have G1:=Lib.hid (g1.mono (show (N+1000+20*(k:Int))+1*(m:Int)+1<=(N+1000+20*(k:Int))+1*((m+1:Nat):Int) by omega));have G2:=Lib.hid (hc.trans' g2);have HS:=Lib.hid hs;clear g1 g2 hs hc hI hst;go_wp2;exact ⟨rfl,_,rfl,⟨x,by omega,by omega,rfl⟩,⟨G1.out,G2.out⟩,HS.out⟩
    ·refine Owes.mk _ rfl rfl (fun _ _ h=>by cases h) fun u m w' hm ⟨hI,hc⟩ hR=>⟨⟨(frm 76 [(21,u 3)]).toArray,[]⟩,rfl,fun d hd=>by cases hd;exact frm_lt (by decide),?_⟩;dsimp only [frm,List.foldl,List.replicate,List.set];have hm:m<8:=hm;obtain ⟨xp0,lp0,hp0,ep0⟩:=hR 3 (by decide);clear hR;rw [ep0];have hlt:=hI.lt;have nb:w'.heap.size∉[rb]:=by simp;omega
     have HL:=Lib.hid hlt;have HI:=Lib.hid hI;have HC:=Lib.hid hc;clear hI hc hlt;go_wp2;have ba:∀ A:Array Value,Below w'.heap.size w' (w'.alloc (.cells A 3)):=fun A=>below_alloc _ _;refine ⟨rfl,_,rfl,⟨_,rfl,nb,fun i hi=>?_⟩,⟨(HI.out.below (ba _)).mono (by omega),HC.out.trans' ((ba _).chg _)⟩,facts_stable hst ((ba _).chg _)⟩;have hx:i=0:=by omega
     rcases hx with rfl
     ·exact ⟨xp0,by omega,by omega,alloc1_new _ _ _ 0 rfl⟩
   case hend =>
    intro u w' ⟨hI,hc⟩ hR;simp only [setAll,List.set_cons_zero,List.set_cons_succ];have e1:u 1=_:=hR 1 (by decide);obtain ⟨b4,e4,n4,c4⟩:=hR 4 (by decide);obtain ⟨x4,l4,h4,c4⟩:=c4 0 (by omega);rw [e1,e4];have hb2:=HB.out.draw HC.out hc hI;have HB2:=Lib.hid hb2;have hcell:∀ (j:Nat) (hj:j<[Value.int .i64 x4].length),w'.cell? ((⟨b4,0,none⟩:Addr).add j)=some [Value.int .i64 x4][j]:=fun j hj=>by
     obtain rfl:j=0:=by simpa using hj
     exact c4
    clear hR hI hc hst e1 e4 HB HR c1 hb2 c4;refine wpList_appendT (k:=1) (cs:=[.int .i64 x4]) rfl _ _ 24 3 i1 (.int .i64 0) 8 rfl Try.underlying24 li lz0 lz1 lz2 rfl (by decide) rfl rfl HB2.out.th HB2.out.lat rfl ⟨_,rfl⟩ hcell (by simp [Value.oneCell']) (by omega) ?_;intro ao' cap' T' w8 t8 s8 a8;have HB8:=Lib.hid (HB2.out.step HC.out t8 s8);have A8:=Lib.hid a8;have c1:=HB8.out.c1;have f1:=HB8.out.fr 1;clear t8 s8 a8 hcell;go_wp2
    go_roundw
    case rel=>exact ⟨k+1,T',ao',cap',by omega,by go_num,(HB8.out.setLat HC.out A8.out).mono (by omega)⟩
    case measure=>simp [intOf];omega
  ·have hk4:k=4:=by omega
   have hb4:=HB.out;rw [hk4] at hb4;have HB4:=Lib.hid hb4;clear hb4 HB;go_wp2_with fail
   go_loopw [7] (fun i wr=>∃ (k:Nat) (T:Tab) (pa:Option Addr) (pc:Nat) (la:Option Addr) (lc:Nat),k<=3∧i = .int .i64 k∧BusAt gFit L rb bx cx fq T0 w (N+2000+50000*k) lm fm (.slice va vn vc) T wr la 4 lc pa k pc) (fun i _=>3 - (intOf i).toNat)
   case atStart=>exact ⟨0,T,none,0,la,lc,by omega,rfl,HB4.out.mono (by omega)⟩
   case round =>
    clear HB4 hk4;obtain ⟨k,T,pa,pc,la,lc,hk,rfl,hba⟩:=hrel;have HB:=Lib.hid hba;clear hba;by_cases hlt3:k<3
    ·have hlt3i:(k:Int)<3:=by omega
     go_wp2_with fail
     obtain ⟨t8,s8,a8⟩:=HB.out.th.lit0 2 26;have hb8:=HB.out.step HC.out t8 s8;have HA8:=Lib.hid a8;refine (pick_any rb fq (N+2000+50000*(k:Int)) (n+1) (by omega) (by omega) (by omega) _ hb8.rd).mono ?_;rintro e w3 ⟨x3,rfl,lo3,hi3,h1,h2⟩;obtain ⟨j3,rfl⟩:=Int.eq_ofNat_of_zero_le lo3;have HB3:=Lib.hid (hb8.draw HC.out h2 h1);clear t8 s8 a8 hb8 h1 h2 HB;go_wp2_with fail
     go_loopw [8,9] (fun v i wr=>∃ (j:Nat) (T:Tab) (a:Option Addr) (m c:Nat),j<=20∧v = .slice a m c∧i = .int .i64 j∧BusAt gFit L rb bx cx fq T0 w (N+2010+50000*(k:Int)+2100*(20 - (j:Int))) lm fm (.slice va vn vc) T wr la 4 lc pa k pc∧SlA T 2 a m c∧m+2*j<=40) (fun _ i _=>(intOf i).toNat)
     case atStart=>exact ⟨j3,_,_,0,0,by omega,rfl,rfl,HB3.out.mono (by omega),HA8.out,by omega⟩
     case round =>
      obtain ⟨j,T,a,m,c,hj,rfl,rfl,hba,ha,hmj⟩:=hrel;have HB:=Lib.hid hba;have HA:=Lib.hid ha;clear hba ha HB3 HA8;by_cases hlj:0<j
      ·have hlji:0<(j:Int):=by omega
       go_wp2_with fail
       refine (l20Req_any rb fq (N+2010+50000*(k:Int)+2100*(20 - (j:Int))) 99999 (by omega) (by omega) (by omega) _ HB.out.rd (fun b hb=>by have:=HB.out.rd.old b hb;omega)).mono ?_;rintro e w4 ⟨x,vd,vl,fd,fl',rfl,hsd,hsl,-,-,hok,hnew,h1,h2⟩;obtain ⟨da,dn,dc,rfl⟩:=hsd.form;obtain ⟨ea,en,ec,rfl⟩:=hsl.form;have HFit:=Lib.hid (reqOk_fit (hok (by omega)));have HB4:=Lib.hid (HB.out.draw HC.out h2 h1);have hqs:w4.heap.size∉fq:=fun hm=>by have:=HB4.out.rd.old _ hm;omega
       have hFz:Fz L T w4 (fd++fl'):=Fz.new HB.out.th h2 hnew (fun b hb=>by
        rcases List.mem_append.1 hb with hb|hb
        ·exact hsd.lt intR_fits b hb
        ·exact hsl.lt intR_fits b hb)
       have hu4:UnitOk gFit L T w4 2 [.int .i64 x.id,.int .i64 x.kind,.int .i64 x.addr,.int .i64 x.many,.bool x.wrap,.slice da dn dc,.slice ea en ec]:=⟨x,fd++fl',⟨_,_,fd,fl',rfl,rfl,hsd,hsl⟩,HFit.out,hFz⟩;have ba:=below_alloc w4 (.cells #[.int .i64 x.id,.int .i64 x.kind,.int .i64 x.addr,.int .i64 x.many,.bool x.wrap,.slice da dn dc,.slice ea en ec] 26);obtain ⟨w5,hw5⟩:∃ z,z=w4.alloc (.cells #[.int .i64 x.id,.int .i64 x.kind,.int .i64 x.addr,.int .i64 x.many,.bool x.wrap,.slice da dn dc,.slice ea en ec] 26):=⟨_,rfl⟩;rw [<- hw5] at ba;have hTq:T w4.heap.size=none:=HB4.out.th.fresh (Nat.le_refl _);have k0:w5.cell? ⟨w4.heap.size,0,none⟩=some (.int .i64 x.id):=by rw [hw5];exact alloc1_new _ _ _ 0 rfl
       have k1:w5.cell? ⟨w4.heap.size,1,none⟩=some (.int .i64 x.kind):=by rw [hw5];exact alloc1_new _ _ _ 1 rfl
       have k2:w5.cell? ⟨w4.heap.size,2,none⟩=some (.int .i64 x.addr):=by rw [hw5];exact alloc1_new _ _ _ 2 rfl
       have k3:w5.cell? ⟨w4.heap.size,3,none⟩=some (.int .i64 x.many):=by rw [hw5];exact alloc1_new _ _ _ 3 rfl
       have k4:w5.cell? ⟨w4.heap.size,4,none⟩=some (.bool x.wrap):=by rw [hw5];exact alloc1_new _ _ _ 4 rfl
       have k5:w5.cell? ⟨w4.heap.size,5,none⟩=some (.slice da dn dc):=by rw [hw5];exact alloc1_new _ _ _ 5 rfl
       have k6:w5.cell? ⟨w4.heap.size,6,none⟩=some (.slice ea en ec):=by rw [hw5];exact alloc1_new _ _ _ 6 rfl
       have HB5:=Lib.hid (HB4.out.below HC.out ba);have HU:=Lib.hid (hu4.step (Step.of_below [] ba) (by simp));clear hsd hsl hok hnew h1 h2 HB hqs hFz hu4 ba;go_upto_region 14 with fail
       rw [<- hw5];clear hw5;have hQL:Hid (w4.heap.size∉L):=Lib.hid (fun hm=>by have:=HB4.out.th.old _ hm;omega);clear HB4;generalize w4.heap.size=qx at *;have HB:=HB5;clear HB5;cases q4:(x.kind == 4)
       ·skip
        obtain ⟨hN2,hUq⟩:m<=2000000∧True:=⟨by omega,trivial⟩;clear hUq;have ba:=below_alloc w5 (.cells #[.int .i64 x.id,.int .i64 x.kind,.int .i64 x.addr,.int .i64 x.many,.bool x.wrap,.slice da dn dc,.slice ea en ec] 26);have HBa:=Lib.hid (HB.out.below HC.out ba);have HUa:=Lib.hid (HU.out.step (Step.of_below [] ba) (by simp));have hcell:∀ (j:Nat) (hj:j<([.int .i64 x.id,.int .i64 x.kind,.int .i64 x.addr,.int .i64 x.many,.bool x.wrap,.slice da dn dc,.slice ea en ec]:List Value).length),(w5.alloc (.cells #[.int .i64 x.id,.int .i64 x.kind,.int .i64 x.addr,.int .i64 x.many,.bool x.wrap,.slice da dn dc,.slice ea en ec] 26)).cell? ((⟨w5.heap.size,0,none⟩:Addr).add j)=some ([.int .i64 x.id,.int .i64 x.kind,.int .i64 x.addr,.int .i64 x.many,.bool x.wrap,.slice da dn dc,.slice ea en ec]:List Value)[j]:=alloc1_news w5 _ _;clear ba HB HU;go_wp2_with (at_builtin;refine wpList_appendT (k:=2) (cs:=[.int .i64 x.id,.int .i64 x.kind,.int .i64 x.addr,.int .i64 x.many,.bool x.wrap,.slice da dn dc,.slice ea en ec]) rfl _ _ 41 26 i0 (.agg #[.int .i64 0,.int .i64 0,.int .i64 0,.int .i64 0,.bool false,.slice none 0 0,.slice none 0 0]) 88 rfl Try.underlying41 ki kz0 kz1 kz2 rfl (by decide) rfl rfl HBa.out.th HA.out rfl HUa.out hcell (by simp [Value.oneCell']) hN2 ?_;intro ao' cap' T' w8 t8 s8 a8;have HB8:=Lib.hid (HBa.out.step HC.out t8 s8);have A8:=Lib.hid a8;clear t8 s8 a8 hcell HBa HUa)
        go_roundw
        case rel=>exact ⟨j - 1,T',ao',m+1,cap',by omega,rfl,by go_num,HB8.out.mono (by omega),A8.out,by omega⟩
        case measure=>simp [intOf];omega
       ·have HKd:=Lib.hid q4;by_cases hm0:0<m
        ·have hm0i:0<(m:Int):=by omega
         go_wp2_with fail
         refine (pick_any rb fq _ 2 (by omega) (by omega) (by omega) _ HB.out.rd).mono ?_;rintro e w6 ⟨x6,rfl,lo6,hi6,h1,h2⟩;have hqr:qx∉[rb]:=fun hm=>by
          have h8:=HB.out.th.rd rb HC.out.hrb;simp at hm;subst hm;exact hQL.out HC.out.hrb
         have HB6:=Lib.hid (HB.out.draw HC.out h2 h1);have HU6:=Lib.hid (HU.out.step (Step.of_chg h2) (fun b hb=>by simp at hb;subst hb;exact HC.out.hrb));replace k0:=keep_cell_chg h2 k0 hqr;replace k1:=keep_cell_chg h2 k1 hqr;replace k2:=keep_cell_chg h2 k2 hqr;replace k3:=keep_cell_chg h2 k3 hqr;replace k4:=keep_cell_chg h2 k4 hqr;replace k5:=keep_cell_chg h2 k5 hqr;replace k6:=keep_cell_chg h2 k6 hqr;clear h1 h2 HB HU;have HB:=HB6;have HU:=HU6;clear HB6 HU6;cases q6:(x6 == 0)
         ·skip
          obtain ⟨hN2,hUq⟩:m<=2000000∧True:=⟨by omega,trivial⟩;clear hUq;have ba:=below_alloc w6 (.cells #[.int .i64 x.id,.int .i64 x.kind,.int .i64 x.addr,.int .i64 x.many,.bool x.wrap,.slice da dn dc,.slice ea en ec] 26);have HBa:=Lib.hid (HB.out.below HC.out ba);have HUa:=Lib.hid (HU.out.step (Step.of_below [] ba) (by simp));have hcell:∀ (j:Nat) (hj:j<([.int .i64 x.id,.int .i64 x.kind,.int .i64 x.addr,.int .i64 x.many,.bool x.wrap,.slice da dn dc,.slice ea en ec]:List Value).length),(w6.alloc (.cells #[.int .i64 x.id,.int .i64 x.kind,.int .i64 x.addr,.int .i64 x.many,.bool x.wrap,.slice da dn dc,.slice ea en ec] 26)).cell? ((⟨w6.heap.size,0,none⟩:Addr).add j)=some ([.int .i64 x.id,.int .i64 x.kind,.int .i64 x.addr,.int .i64 x.many,.bool x.wrap,.slice da dn dc,.slice ea en ec]:List Value)[j]:=alloc1_news w6 _ _;clear ba HB HU;go_wp2_with (at_builtin;refine wpList_appendT (k:=2) (cs:=[.int .i64 x.id,.int .i64 x.kind,.int .i64 x.addr,.int .i64 x.many,.bool x.wrap,.slice da dn dc,.slice ea en ec]) rfl _ _ 41 26 i0 (.agg #[.int .i64 0,.int .i64 0,.int .i64 0,.int .i64 0,.bool false,.slice none 0 0,.slice none 0 0]) 88 rfl Try.underlying41 ki kz0 kz1 kz2 rfl (by decide) rfl rfl HBa.out.th HA.out rfl HUa.out hcell (by simp [Value.oneCell']) hN2 ?_;intro ao' cap' T' w8 t8 s8 a8;have HB8:=Lib.hid (HBa.out.step HC.out t8 s8);have A8:=Lib.hid a8;clear t8 s8 a8 hcell HBa HUa)
          go_roundw
          case rel=>exact ⟨j - 1,T',ao',m+1,cap',by omega,rfl,by go_num,HB8.out.mono (by omega),A8.out,by omega⟩
          case measure=>simp [intOf];omega
         ·skip
          have ba:=below_alloc w6 (.cells #[.int .i64 x.id,.int .i64 3,.int .i64 x.addr,.int .i64 1,.bool false,.slice none 0 0,.slice none 0 0] 26);have HBa:=Lib.hid (HB.out.below HC.out ba);have HUa:=Lib.hid (HU.out.step (Step.of_below [] ba) (by simp));have tq:=hTq;have k0:=keep_cell ba k0;have k1:=keep_cell ba k1;have k2:=keep_cell ba k2;have k3:=keep_cell ba k3;have k4:=keep_cell ba k4;have k5:=keep_cell ba k5;have k6:=keep_cell ba k6;have hcell:∀ (j:Nat) (hj:j<([.int .i64 x.id,.int .i64 3,.int .i64 x.addr,.int .i64 1,.bool false,.slice none 0 0,.slice none 0 0]:List Value).length),(w6.alloc (.cells #[.int .i64 x.id,.int .i64 3,.int .i64 x.addr,.int .i64 1,.bool false,.slice none 0 0,.slice none 0 0] 26)).cell? ((⟨w6.heap.size,0,none⟩:Addr).add j)=some ([.int .i64 x.id,.int .i64 3,.int .i64 x.addr,.int .i64 1,.bool false,.slice none 0 0,.slice none 0 0]:List Value)[j]:=alloc1_news w6 _ _;clear ba HB HU;go_upto_region 16 with (at_builtin;refine wpList_appendT (k:=2) (cs:=[.int .i64 x.id,.int .i64 3,.int .i64 x.addr,.int .i64 1,.bool false,.slice none 0 0,.slice none 0 0]) rfl _ _ 41 26 i0 (.agg #[.int .i64 0,.int .i64 0,.int .i64 0,.int .i64 0,.bool false,.slice none 0 0,.slice none 0 0]) 88 rfl Try.underlying41 ki kz0 kz1 kz2 rfl (by decide) rfl rfl HBa.out.th HA.out rfl (hold_fit HFit.out) hcell (by simp [Value.oneCell']) (by omega) ?_;intro ao' cap' T7 w7 t7 s7 a7;go_loud (have HB:=Lib.hid (HBa.out.step HC.out t7 s7);have HU:=Lib.hid (HUa.out.step s7 (by simp));have k0:=s7.cell k0 (by simp) tq;have k1:=s7.cell k1 (by simp) tq;have k2:=s7.cell k2 (by simp) tq;have k3:=s7.cell k3 (by simp) tq;have k4:=s7.cell k4 (by simp) tq;have k5:=s7.cell k5 (by simp) tq;have k6:=s7.cell k6 (by simp) tq;replace HA:=Lib.hid a7;clear t7 s7 a7 hcell HBa HUa))
          obtain ⟨hN2,hUq⟩:(m+1)<=2000000∧True:=⟨by omega,trivial⟩;clear hUq;have ba:=below_alloc w7 (.cells #[.int .i64 x.id,.int .i64 x.kind,.int .i64 x.addr,.int .i64 x.many,.bool x.wrap,.slice da dn dc,.slice ea en ec] 26);have HBa:=Lib.hid (HB.out.below HC.out ba);have HUa:=Lib.hid (HU.out.step (Step.of_below [] ba) (by simp));have hcell:∀ (j:Nat) (hj:j<([.int .i64 x.id,.int .i64 x.kind,.int .i64 x.addr,.int .i64 x.many,.bool x.wrap,.slice da dn dc,.slice ea en ec]:List Value).length),(w7.alloc (.cells #[.int .i64 x.id,.int .i64 x.kind,.int .i64 x.addr,.int .i64 x.many,.bool x.wrap,.slice da dn dc,.slice ea en ec] 26)).cell? ((⟨w7.heap.size,0,none⟩:Addr).add j)=some ([.int .i64 x.id,.int .i64 x.kind,.int .i64 x.addr,.int .i64 x.many,.bool x.wrap,.slice da dn dc,.slice ea en ec]:List Value)[j]:=alloc1_news w7 _ _;clear ba HB HU;go_wp2_with (at_builtin;refine wpList_appendT (k:=2) (cs:=[.int .i64 x.id,.int .i64 x.kind,.int .i64 x.addr,.int .i64 x.many,.bool x.wrap,.slice da dn dc,.slice ea en ec]) rfl _ _ 41 26 i0 (.agg #[.int .i64 0,.int .i64 0,.int .i64 0,.int .i64 0,.bool false,.slice none 0 0,.slice none 0 0]) 88 rfl Try.underlying41 ki kz0 kz1 kz2 rfl (by decide) rfl rfl HBa.out.th HA.out rfl HUa.out hcell (by simp [Value.oneCell']) hN2 ?_;intro ao' cap' T' w8 t8 s8 a8;have HB8:=Lib.hid (HBa.out.step HC.out t8 s8);have A8:=Lib.hid a8;clear t8 s8 a8 hcell HBa HUa)
          go_roundw
          case rel=>exact ⟨j - 1,T',ao',(m+1)+1,cap',by omega,rfl,by go_num,HB8.out.mono (by omega),A8.out,by omega⟩
          case measure=>simp [intOf];omega
        ·have hm0i:¬ 0<(m:Int):=by omega
         obtain ⟨hN2,hUq⟩:m<=2000000∧True:=⟨by omega,trivial⟩;clear hUq;have ba:=below_alloc w5 (.cells #[.int .i64 x.id,.int .i64 x.kind,.int .i64 x.addr,.int .i64 x.many,.bool x.wrap,.slice da dn dc,.slice ea en ec] 26);have HBa:=Lib.hid (HB.out.below HC.out ba);have HUa:=Lib.hid (HU.out.step (Step.of_below [] ba) (by simp));have hcell:∀ (j:Nat) (hj:j<([.int .i64 x.id,.int .i64 x.kind,.int .i64 x.addr,.int .i64 x.many,.bool x.wrap,.slice da dn dc,.slice ea en ec]:List Value).length),(w5.alloc (.cells #[.int .i64 x.id,.int .i64 x.kind,.int .i64 x.addr,.int .i64 x.many,.bool x.wrap,.slice da dn dc,.slice ea en ec] 26)).cell? ((⟨w5.heap.size,0,none⟩:Addr).add j)=some ([.int .i64 x.id,.int .i64 x.kind,.int .i64 x.addr,.int .i64 x.many,.bool x.wrap,.slice da dn dc,.slice ea en ec]:List Value)[j]:=alloc1_news w5 _ _;clear ba HB HU;go_wp2_with (at_builtin;refine wpList_appendT (k:=2) (cs:=[.int .i64 x.id,.int .i64 x.kind,.int .i64 x.addr,.int .i64 x.many,.bool x.wrap,.slice da dn dc,.slice ea en ec]) rfl _ _ 41 26 i0 (.agg #[.int .i64 0,.int .i64 0,.int .i64 0,.int .i64 0,.bool false,.slice none 0 0,.slice none 0 0]) 88 rfl Try.underlying41 ki kz0 kz1 kz2 rfl (by decide) rfl rfl HBa.out.th HA.out rfl HUa.out hcell (by simp [Value.oneCell']) hN2 ?_;intro ao' cap' T' w8 t8 s8 a8;have HB8:=Lib.hid (HBa.out.step HC.out t8 s8);have A8:=Lib.hid a8;clear t8 s8 a8 hcell HBa HUa)
         go_roundw
         case rel=>exact ⟨j - 1,T',ao',m+1,cap',by omega,rfl,by go_num,HB8.out.mono (by omega),A8.out,by omega⟩
         case measure=>simp [intOf];omega
      ·obtain rfl:j=0:=by omega
       have c2:=HB.out.c2;obtain ⟨mk,rfl⟩:∃ z,z=m:=⟨_,rfl⟩;obtain ⟨mm,hmm⟩:∃ z,z=min mk 12:=⟨_,rfl⟩;have hmi:min (mk:Int) 12=(mm:Int):=by omega
       have hml:mm<=mk:=by omega
       have HMM:=Lib.hid hmm;have hm12:mm<=12:=by omega
       have hcp:mm<=c:=Nat.le_trans hml HA.out.1;have hcpi:(mm:Int)<=(c:Int):=by omega
       clear hmm hmi;go_upto_region 17 with fail
       have hst:∀ F,F∈[FEq (.pointer (some ⟨bx,2,none⟩)),FEq (.slice pa k pc),FEq (.slice a mk c),FEq (.slice a mk c),FEq (.int .i64 (mk:Int)),FEq (.int .i64 (mm:Int)),FEq (.slice a mm c),FOne (.slice a mm c)]->Stable [] F:=by repeat first|exact st_nil|refine st_eq ?_|refine st_cons (by first|exact stOne _) ?_
       refine wp_tailH hst tbl20Bus17 (fun _ w'=>Below wr.heap.size wr w') 76 11 8 [some 65,some 66,some 67,some 68,some 69,some 70,some 71,some 72] _ [] ?h0 ?hop ?hend
       case h0=>exact (Below.refl _ _).drew
       case hop =>
        refine ⟨⟨⟨⟨⟨⟨⟨⟨trivial,?_⟩,?_⟩,?_⟩,?_⟩,?_⟩,?_⟩,?_⟩,?_⟩
        ·exact Owes.k0 76 [(5,.pointer (some ⟨bx,0,none⟩))]
        ·exact Owes.c1 76 65 0 c2
        ·exact Owes.k0 76 [(8,.slice a mk c)]
        ·exact Owes.k0 76 [(8,.slice a mk c)]
        ·exact Owes.k1 76 68 3
        ·refine Owes.mk _ rfl rfl (fun _ _ h=>by cases h) fun u m w' hm hI hR=>⟨⟨(frm 76 [(69,u 4)]).toArray,[]⟩,rfl,fun d hd=>by cases hd;exact frm_lt (by decide),?_⟩;dsimp only [frm,List.foldl,List.replicate,List.set];have e4:u 4=_:=hR 4 (by decide);rw [e4];clear e4;have HI:=Lib.hid hI;clear hI hst hR;go_wp2
         all_goals exact ⟨rfl,_,rfl,(by show Value.int .i64 _=Value.int .i64 _;congr 1;have:=HMM.out;omega),HI.out,fun _ _ h=>h⟩
        ·exact Owes.k2 76 67 2 70 5
        ·refine Owes.mk _ rfl rfl (fun _ _ h=>by cases h) fun u m w' hm hI hR=>⟨⟨(frm 76 [(71,u 6)]).toArray,[]⟩,rfl,fun d hd=>by cases hd;exact frm_lt (by decide),?_⟩;dsimp only [frm,List.foldl,List.replicate,List.set];have e6:u 6=_:=hR 6 (by decide);rw [e6];clear e6;have ba:=below_alloc w' (.cells #[.slice a mm c] 41);have HS8:=Lib.hid (facts_stable hst (ba.chg []));have HB8:=Lib.hid (hI.trans (ba.mono hI.size));clear hI hst hR ba;go_wp2;exact ⟨rfl,_,rfl,⟨w'.heap.size,rfl,alloc_new _ _ _⟩,HB8.out,HS8.out⟩
       case hend =>
        intro u w' hI hR;simp only [setAll,List.set_cons_zero,List.set_cons_succ];have e1:u 1=_:=hR 1 (by decide);obtain ⟨b7,e7,c7⟩:=hR 7 (by decide);rw [e1,e7];have HB2:=Lib.hid (HB.out.below HC.out hI);have hcell:∀ (j:Nat) (hj:j<([.slice a mm c]:List Value).length),w'.cell? ((⟨b7,0,none⟩:Addr).add j)=some ([.slice a mm c]:List Value)[j]:=fun j hj=>by
         obtain rfl:j=0:=by simpa using hj
         exact c7
        clear hR hI hst e1 e7 HB c2 c7;refine wpList_appendT (k:=4) (cs:=[.slice a mm c]) rfl _ _ 36 41 i2 (.slice none 0 0) 24 rfl Try.underlying36 pi pz0 pz1 pz2 rfl (by decide) rfl rfl HB2.out.th HB2.out.prg rfl ⟨a,mm,c,rfl,HA.out.take hml,hm12⟩ hcell (by simp [Value.oneCell']) (by omega) ?_;intro ao' cap' T' w8 t8 s8 a8;have HB8:=Lib.hid (HB2.out.step HC.out t8 s8);have A8:=Lib.hid a8;have c2:=HB8.out.c2;have f2:=HB8.out.fr 2;clear t8 s8 a8 hcell;go_wp2
        go_roundw
        case rel=>exact ⟨k+1,T',ao',cap',la,lc,by omega,by go_num,(HB8.out.setPrg HC.out A8.out).mono (by omega)⟩
        case measure=>simp [intOf];omega
    ·obtain rfl:k=3:=by omega
     have c0:=HB.out.c0;have c1:=HB.out.c1;have c2:=HB.out.c2;obtain ⟨u0,r0⟩:=HB.out.r0;obtain ⟨u1,r1⟩:=HB.out.r1;obtain ⟨u2,r2⟩:=HB.out.r2;have f0:=HB.out.fc 0;have f1:=HB.out.fc 1;have f2:=HB.out.fc 2;go_wp2;refine bodyPost_ret (v:=.agg #[.slice va vn vc,.slice la 4 lc,.slice pa 3 pc]) (by simp [results,Try.results107,go_sem,put3_0 _ _ _ r0,put3_1 _ _ _ r1,put3_2 _ _ _ r2]) rfl ?_;exact ⟨T,lm,fm,va,vn,vc,la,lc,pa,pc,(HB.out.mono (by omega)).done HC.out HHS.out ((store_chg _).trans' ((store_chg _).trans' (store_chg _))),HML.out⟩
end Go.Proofs.Ytmcjklicepaiaaa
