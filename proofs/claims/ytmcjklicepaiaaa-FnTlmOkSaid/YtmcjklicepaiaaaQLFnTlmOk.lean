/-
 Proved: the Go function laws.FnTlmOk returns true for all arguments: the program's TlmOk answers as the reference's,and of a way a bus may stand,with one thing more that was told,or with one more asked that is nowhere,it may not.
 Conditions: none.
-/
import Derived.Test.YtmcjklicepaiaaaQTlmOr
import Derived.Test.YtmcjklicepaiaaaPk50
import Derived.Deep.Cut
set_option linter.unusedVariables false
set_option linter.unusedSimpArgs false
namespace Go.Proofs.Ytmcjklicepaiaaa
def tbFnTlmOk10:List (List Nat):=[[],[],[1],[0,1,2],[],[4],[4,5],[4,5,6],[],[4,5,6,7,8],[4,5,6,7,8,9],[0,1,2,3,4,5,6,7,8,9,10],[0,1,2,3,4,5,6,7,8,9,10,11],[0,1,2,3,4,5,6,7,8,9,10,11,12]]
def tbFnTlmOk12:List (List Nat):=[[],[0],[0,1],[0,1,2],[0,1,2,3],[0,1,2,3,4],[],[6],[6,7],[0,1,2,3,4,5,6,7,8],[0,1,2,3,4,5,6,7,8,9],[0,1,2,3,4,5,6,7,8,9,10]]
open Go.RowKit Go.ChangeShapes Go.WideShapes Go.ChangeAt
theorem P6.below {w w':World} {y:Tlm} {v0 v1 v2 v3 v4 v5:Value} {g0 g1 g2 g3 g4 g5:List Nat} (h:P6 w y v0 v1 v2 v3 v4 v5 g0 g1 g2 g3 g4 g5) (hb:Below w.heap.size w w'):P6 w' y v0 v1 v2 v3 v4 v5 g0 g1 g2 g3 g4 g5:=h.same (fun b _ hl=>hb.block b hl) hb.size
theorem six_new (w:World) (v0 v1 v2 v3 v4 v5:Value) (t:TypeId):Six w.heap.size v0 v1 v2 v3 v4 v5 (w.alloc (.cells #[v0,v1,v2,v3,v4,v5] t)):=fun j hj=>alloc1_new _ _ _ j (by rw [<- Array.getElem?_toList];exact List.getElem?_eq_getElem hj)
set_option maxRecDepth 100000 in
set_option maxHeartbeats 12800000 in
theorem walk (v:Value) (l0:List Int) (fp0:List Nat) (w:World) (g:ByteS w l0 v fp0) :
 Calls Try.prog 9 #[v] w fun e w'=>e = .returned (.bool true)∧Below w.heap.size w w':=by
 obtain ⟨a0,n0,c0,rfl,hn0,hcap0,hmax0,hcm0,_⟩:=g.opened;have G:=Lib.hid g;clear g;by_cases hb:1048576<n0
 ·go_enter Try.func9,Try.ntmps9
  go_wp2;go_ret;exact ⟨rfl,Below.refl _ _⟩
 ·obtain ⟨i0,ki,kz0,kz1,kz2⟩:=info_parts infoJob;obtain ⟨j0,ji,jz0,jz1,jz2⟩:=info_parts infoInt;go_enter Try.func9,Try.ntmps9
  go_wp2_with fail
  refine (drawTlmOk_any _ l0 fp0 w G.out).mono ?_;clear hn0 hcap0 hmax0 hcm0 G;rintro e w1 ⟨x,va,la,pa,vn,vc,ln,lc,pn,pc,v0,v1,v2,v3,v4,v5,y,g0,g1,g2,g3,g4,g5,rfl,br,p,b1⟩;obtain ⟨⟨f0,q0⟩,⟨f1,q1⟩,⟨f2,q2⟩⟩:=br;obtain ⟨a0,n0,k0,rfl⟩:=p.h0.form;obtain ⟨a1,n1,k1,rfl⟩:=p.h1.form;obtain ⟨a2,n2,k2,rfl⟩:=p.h2.form;obtain ⟨a3,n3,k3,rfl⟩:=p.h3.form;obtain ⟨a4,n4,k4,rfl⟩:=p.h4.form;obtain ⟨a5,n5,k5,rfl⟩:=p.h5.form;obtain ⟨w2,hw2⟩:∃ z,z=(w1.alloc (.cells #[.slice va vn vc,.slice la ln lc,.slice pa pn pc] 38)).alloc (.cells #[.slice a0 n0 k0,.slice a1 n1 k1,.slice a2 n2 k2,.slice a3 n3 k3,.slice a4 n4 k4,.slice a5 n5 k5] 70):=⟨_,rfl⟩;have b2:Below w1.heap.size w1 w2:=by rw [hw2];exact (below_alloc _ _).trans ((below_alloc _ _).mono (by simp))
  have X0:w2.cell? ⟨w1.heap.size,0,none⟩=some (.slice va vn vc):=by rw [hw2];exact alloc_keep (alloc1_new _ _ _ 0 rfl) _
  have X1:w2.cell? ⟨w1.heap.size,1,none⟩=some (.slice la ln lc):=by rw [hw2];exact alloc_keep (alloc1_new _ _ _ 1 rfl) _
  have X2:w2.cell? ⟨w1.heap.size,2,none⟩=some (.slice pa pn pc):=by rw [hw2];exact alloc_keep (alloc1_new _ _ _ 2 rfl) _
  have SX:Six (w1.heap.size+1) (.slice a0 n0 k0) (.slice a1 n1 k1) (.slice a2 n2 k2) (.slice a3 n3 k3) (.slice a4 n4 k4) (.slice a5 n5 k5) w2:=by
   have:=six_new (w1.alloc (.cells #[.slice va vn vc,.slice la ln lc,.slice pa pn pc] 38)) (.slice a0 n0 k0) (.slice a1 n1 k1) (.slice a2 n2 k2) (.slice a3 n3 k3) (.slice a4 n4 k4) (.slice a5 n5 k5) 70;rw [hw2];simpa using this
  have s0:=SX 0 (by decide);have s1:=SX 1 (by decide);have s2:=SX 2 (by decide);have s3:=SX 3 (by decide);have s4:=SX 4 (by decide);have s5:=SX 5 (by decide);simp only [List.getElem_cons_zero,List.getElem_cons_succ] at s0 s1 s2 s3 s4 s5;have HB:=Lib.hid (b1.trans (b2.mono b1.size));have G0:=Lib.hid (SlR.below mrR_fits q0 b2);have G1:=Lib.hid (SlR.below intR_fits q1 b2);have G2:=Lib.hid (SlR.below (slR_fits reqR_fits) q2 b2);have PY:=Lib.hid (p.below b2);go_upto_region 4 with fail
  rw [<- hw2];obtain ⟨bc,hbc⟩:∃ z,z=w1.heap.size:=⟨_,rfl⟩;rw [<- hbc] at X0 X1 X2 s0 s1 s2 s3 s4 s5;rw [<- hbc];clear hw2 hbc q0 q1 q2 p b1 b2 SX;go_wp2_with fail
  refine (iTlmOk_any x _ _ _ f0 f1 f2 y _ _ _ _ _ _ g0 g1 g2 g3 g4 g5 _ G0.out G1.out G2.out PY.out.h0 PY.out.h1 PY.out.h2 PY.out.h3 PY.out.h4 PY.out.h5).mono ?_;obtain ⟨bq,hq⟩:∃ z,z=tlmOk x y:=⟨_,rfl⟩;have HQ:=Lib.hid hq;rw [<- HQ.out];clear hq;rintro e w3 ⟨rfl,b3⟩;replace X0:=keep_cell b3 X0;replace X1:=keep_cell b3 X1;replace X2:=keep_cell b3 X2;replace s0:=keep_cell b3 s0;replace s1:=keep_cell b3 s1;replace s2:=keep_cell b3 s2;replace s3:=keep_cell b3 s3;replace s4:=keep_cell b3 s4;replace s5:=keep_cell b3 s5;replace G0:=Lib.hid (SlR.below mrR_fits G0.out b3);replace G1:=Lib.hid (SlR.below intR_fits G1.out b3);replace G2:=Lib.hid (SlR.below (slR_fits reqR_fits) G2.out b3);replace PY:=Lib.hid (PY.out.below b3);replace HB:=Lib.hid (HB.out.trans (b3.mono HB.out.size));clear b3;go_wp2_with fail
  refine (sTlmOk_any x _ _ _ f0 f1 f2 y _ _ _ _ _ _ g0 g1 g2 g3 g4 g5 _ G0.out G1.out G2.out PY.out.h0 PY.out.h1 PY.out.h2 PY.out.h3 PY.out.h4 PY.out.h5).mono ?_;rw [<- HQ.out];rintro e w4 ⟨rfl,b4⟩;replace X0:=keep_cell b4 X0;replace X1:=keep_cell b4 X1;replace X2:=keep_cell b4 X2;replace s0:=keep_cell b4 s0;replace s1:=keep_cell b4 s1;replace s2:=keep_cell b4 s2;replace s3:=keep_cell b4 s3;replace s4:=keep_cell b4 s4;replace s5:=keep_cell b4 s5;replace G0:=Lib.hid (SlR.below mrR_fits G0.out b4);replace G1:=Lib.hid (SlR.below intR_fits G1.out b4);replace G2:=Lib.hid (SlR.below (slR_fits reqR_fits) G2.out b4);replace PY:=Lib.hid (PY.out.below b4);replace HB:=Lib.hid (HB.out.trans (b4.mono HB.out.size));clear b4;cases bq
  ·go_wp2_with fail
   refine (crOk_any _).mono ?_;rintro e w9 ⟨rfl,rfl⟩;go_wp2;go_ret;exact ⟨rfl,HB.out⟩
  ·obtain ⟨hl,hask,htold,-⟩:=tlmOk_in HQ.out.symm;have h03:0<y.asked.length:=by omega
   have hA:=hask.at' 0 h03 (by rw [hask.lp];omega);have htl:y.told.length<=36:=few_toldOk hask htold;obtain ⟨A,hAe⟩:∃ z,z=y.asked[0]:=⟨_,rfl⟩;have ha0:0<=A:=by rw [hAe];exact hA.1
   have ha1:A<=12:=by rw [hAe];omega
   have HNT:Hid (tlmOk x ⟨y.atm,y.asked,y.wait,y.done,y.told++[⟨0,A,⟨0,1,[]⟩⟩]⟩=false):=Lib.hid (by rw [hAe];exact tlm_told HQ.out.symm h03 _);have HNA:Hid (tlmOk x ⟨y.atm,(A+1)::y.asked.drop 1,y.wait,y.done,y.told⟩=false):=Lib.hid (by rw [hAe];exact tlm_asked HQ.out.symm h03);have HAE:=Lib.hid hAe;have HL3:=Lib.hid hl;have HTL:=Lib.hid htl;clear hl hask htold hA hAe htl;have p2:=PY.out.h2;obtain ⟨ab,ao,rfl⟩:∃ b o,a2=some ⟨b,o,none⟩:=by
    obtain ⟨_,_,_,e,hl2,_,_,⟨hl3,_⟩|⟨_,_,_,e2,_⟩⟩:=p2
    ·exfalso;have hl3:y.asked=[]:=hl3;rw [hl3] at h03;simp at h03
    ·cases e;exact ⟨_,_,e2⟩
   obtain rfl:n2=3:=by
    obtain ⟨_,_,_,e,hl2,_⟩:=p2;cases e;rw [<- hl2];exact HL3.out
   obtain ⟨hz3,hzm⟩:3<=k2∧k2<=maxLen:=by
    obtain ⟨_,_,_,e,_,h3,h4,_⟩:=p2;cases e;exact ⟨h3,h4⟩
   unfold maxLen at hzm;have aq:w4.cell? ⟨ab,ao,none⟩=some (.int .i64 A):=by
    obtain ⟨_,_,_,e,_,_,_,_,r⟩:=p2.opened;cases e;obtain ⟨_,b9,o9,f9,cs,e9,_,_,_,⟨rfl,-⟩,e1⟩:=r 0 (by decide);cases e9;have:=e1 0 (by simp);rw [HAE.out];simpa using this
   obtain ⟨L,ft,hLm,hLs,hLr,hLf⟩:=PY.out.h5.tr jobR_fits;have HLM:=Lib.hid hLm;have HLS:=Lib.hid hLs;have HLR:=Lib.hid hLr;have hn5:L.length=n5:=by
    obtain ⟨_,_,_,e,h,_⟩:=hLs;cases e;exact h
   have hLl:L.length=y.told.length:=by rw [<- hLm];simp
   have HN5:=Lib.hid hn5;have HLL:=Lib.hid hLl;clear p2 hLm hLs hLr hLf hn5 hLl;go_upto_region 10 with fail
   obtain ⟨w5,hw5⟩:∃ z,z=w4.alloc (.cells #[.slice a0 n0 k0,.slice a1 n1 k1,.slice (some ⟨ab,ao,none⟩) 3 k2,.slice a3 n3 k3,.slice a4 n4 k4,.slice a5 n5 k5] 70):=⟨_,rfl⟩;rw [<- hw5];have b5:Below w4.heap.size w4 w5:=by rw [hw5];exact below_alloc _ _
   have XS:Six w4.heap.size (.slice a0 n0 k0) (.slice a1 n1 k1) (.slice (some ⟨ab,ao,none⟩) 3 k2) (.slice a3 n3 k3) (.slice a4 n4 k4) (.slice a5 n5 k5) w5:=by rw [hw5];exact six_new _ _ _ _ _ _ _ _
   have xf:w5.frozen? ⟨w4.heap.size,5,none⟩=false:=by rw [hw5];exact alloc1_free _ _ _ _
   have hz5:w5.heap.size=w4.heap.size+1:=by rw [hw5];simp
   have S2:=keep_cell b5 s2;have S5:=keep_cell b5 s5;have AQ:=keep_cell b5 aq;have HLS5:=Lib.hid (SlR.below (flatR_fits trC_len) HLS.out b5);obtain ⟨xb,hxb⟩:∃ z,z=w4.heap.size:=⟨_,rfl⟩;rw [<- hxb] at XS xf hz5;rw [<- hxb];have HXB:=Lib.hid hxb;have HZ5:=Lib.hid hz5;have HXS:=Lib.hid XS;have HXF:=Lib.hid xf;have HB5:=Lib.hid b5;have Z0:=Lib.hid s0;have Z1:=Lib.hid s1;have Z2:=Lib.hid s2;have Z3:=Lib.hid s3;have Z4:=Lib.hid s4;have Z5:=Lib.hid s5;have ZX0:=Lib.hid X0;have ZX1:=Lib.hid X1;have ZX2:=Lib.hid X2;have ZA:=Lib.hid aq;clear hw5 b5 XS xf hz5 HLS hxb X0 X1 X2 s0 s1 s2 s3 s4 s5 aq;have hst:∀ F,F∈[FLit 5 (trC (α:=Job) (K:=5)) 64 w5.heap.size,FEq (.pointer (some ⟨bc+1,5,none⟩)),FEq (.slice a5 n5 k5),FOwn 5 (trC (α:=Job) (K:=5)) 64 w5.heap.size L,FEq (.pointer (some ⟨bc+1,2,none⟩)),FEq (.slice (some ⟨ab,ao,none⟩) 3 k2),FEq (.pointer (some ⟨ab,ao,none⟩)),FEq (.int .i64 A),FEq (.agg #[.int .i64 0,.int .i64 1,.slice none 0 0]),FEq (.agg #[.int .i64 0,.int .i64 A,.int .i64 0,.int .i64 1,.slice none 0 0]),FJob [.int .i64 0,.int .i64 A,.int .i64 0,.int .i64 1,.slice none 0 0]]->Stable [] F:=by repeat first|exact st_nil|refine st_eq ?_|refine st_cons (by first|exact stLit _ _ _ _|exact stOwn _ _ _ _ _|exact stJob _) ?_
   refine wp_tailH hst tbFnTlmOk10 (fun _ w'=>Below w5.heap.size w5 w') 63 14 11 [some 28,some 29,some 30,some 31,some 32,some 33,some 34,some 35,some 36,some 37,some 38] _ [] ?h0 ?hop ?hend
   case h0=>exact (Below.refl _ _).drew
   case hop =>
    refine ⟨⟨⟨⟨⟨⟨⟨⟨⟨⟨⟨trivial,?_⟩,?_⟩,?_⟩,?_⟩,?_⟩,?_⟩,?_⟩,?_⟩,?_⟩,?_⟩,?_⟩
    ·refine Owes.mk _ rfl rfl (fun _ _ h=>by cases h) fun u m w' hm hI hR=>⟨⟨(frm 63 []).toArray,[]⟩,rfl,fun d hd=>by cases hd;exact frm_lt (by decide),?_⟩;dsimp only [frm,List.foldl,List.replicate,List.set];have HI:=Lib.hid hI;have HS:=Lib.hid (facts_stable hst ((below_alloc w' (.cells #[] 64)).chg []));clear hI hst hR;go_wp2;exact ⟨rfl,_,rfl,⟨_,rfl,OwnR.lit w' #[] 0 [] trC_len rfl rfl HI.out.size (Nat.zero_le _)⟩,HI.out.trans ((below_alloc _ _).mono HI.out.size),HS.out⟩
    ·exact Owes.k0 63 [(4,.pointer (some ⟨bc+1,0,none⟩))]
    ·exact Owes.c1 63 29 1 S5
    ·refine Owes.mk _ rfl rfl (fun _ _ h=>by cases h) fun u m w' hm hI hR=>⟨⟨(frm 63 [(28,u 0),(30,u 2)]).toArray,[]⟩,rfl,fun d hd=>by cases hd;exact frm_lt (by decide),?_⟩;dsimp only [frm,List.foldl,List.replicate,List.set];have e2:u 2=_:=hR 2 (by decide);rw [e2];clear e2;obtain ⟨q,e3,o3⟩:=hR 0 (by decide);rw [e3] at o3;rw [e3];have gg:SlR 5 (flatR trC) w' L (.slice a5 n5 k5) ft:=SlR.below (flatR_fits trC_len) HLS5.out hI;refine wpList_append_lit (K:=5) (c:=trC) (news:=L) rfl _ _ 56 64 i0 (.agg #[.int .i64 0,.int .i64 0,.int .i64 0,.int .i64 0,.slice none 0 0]) 56 trC_len rfl Try.underlying56 ki kz0 kz1 kz2 rfl (by decide) (by decide) rfl rfl o3 gg hI.size (by have:=HN5.out;have:=HLL.out;have:=HTL.out;omega) ?_;intro v' w2 ho hb;exact ⟨rfl,_,rfl,ho,hI.trans (hb.mono hI.size),facts_stable hst (hb.chg [])⟩
    ·exact Owes.k0 63 [(4,.pointer (some ⟨bc+1,0,none⟩))]
    ·exact Owes.c1 63 32 4 S2
    ·exact Owes.k1 63 33 5
    ·exact Owes.c1 63 34 6 AQ
    ·exact Owes.k0 63 []
    ·exact Owes.k2 63 35 7 36 8
    ·refine Owes.mk _ rfl rfl (fun _ _ h=>by cases h) fun u m w' hm hI hR=>⟨⟨(frm 63 [(37,u 9)]).toArray,[]⟩,rfl,fun d hd=>by cases hd;exact frm_lt (by decide),?_⟩;dsimp only [frm,List.foldl,List.replicate,List.set];have e9:u 9=_:=hR 9 (by decide);rw [e9];clear e9;have ba:=below_alloc w' (.cells #[.int .i64 0,.int .i64 A,.int .i64 0,.int .i64 1,.slice none 0 0] 64);have HI:=Lib.hid (hI.trans (ba.mono hI.size));have HS:=Lib.hid (facts_stable hst (ba.chg []));clear hI hst hR ba;go_wp2;exact ⟨rfl,_,rfl,⟨_,rfl,fun j hj=>alloc1_new _ _ _ j (by rw [<- Array.getElem?_toList];exact List.getElem?_eq_getElem hj)⟩,HI.out,HS.out⟩
   case hend =>
    intro u w' hI hR;simp only [setAll,List.set_cons_zero,List.set_cons_succ];have o3:OwnR 5 trC 64 w5.heap.size w' (u 3) L:=hR 3 (by decide);obtain ⟨jb,e10,cj⟩:=(hR 10 (by decide):FJob _ _ _);rw [e10];obtain ⟨tj,htj⟩:∃ z:Tr Job 5,z=(⟨0,A,⟨0,1,[]⟩⟩,⟨[.int .i64 0,.int .i64 A,.int .i64 0,.int .i64 1,.slice none 0 0],rfl⟩,[]):=⟨_,rfl⟩;refine wpList_appendB (c:=trC) (news:=[tj]) (l:=L) (base:=w5.heap.size) rfl _ _ 56 64 i0 (.agg #[.int .i64 0,.int .i64 0,.int .i64 0,.int .i64 0,.slice none 0 0]) 56 trC_len rfl Try.underlying56 ki kz0 kz1 kz2 rfl (by decide) (by decide) rfl rfl o3 rfl (by decide) (by
     intro j z hj;rw [htj] at hj;simp only [List.flatMap_cons,List.flatMap_nil,List.append_nil,trC] at hj;obtain ⟨hj1,hj2⟩:=List.getElem?_eq_some_iff.1 hj;rw [<- hj2,add_plain,Nat.zero_add];exact cj j hj1) (by rw [htj];simp [trC,Value.oneCell']) (by have:=HLL.out;have:=HTL.out;omega) (by decide) hI.size ?_
    intro v' wb ho' hgr hblk;have hbb:Below w5.heap.size w' wb:=grown_below o3 hgr hI.size;have hb5:Below w5.heap.size w5 wb:=hI.trans hbb;have hb4:Below w4.heap.size w4 wb:=HB5.out.trans (hb5.mono HB5.out.size);obtain ⟨fr,g1',lo',-,-⟩:=ho'.reads trC_len;obtain ⟨ta,tn,tc,rfl⟩:=g1'.form;have XSb:=HXS.out.chg (hb5.chg []) (by simp);have x5:=XSb 5 (by decide);simp only [List.getElem_cons_zero,List.getElem_cons_succ] at x5;have xfb:wb.frozen? ⟨xb,5,none⟩=false:=(World.frozen?_of_block (hb5.block xb (by have:=HZ5.out;omega))).trans HXF.out;have hall:∀ p,p∈L++[tj]->jobR wb p.1 p.2.1.1 p.2.2∧∀ b,b∈p.2.2->b<xb:=fun p hp=>by
     rcases List.mem_append.1 hp with hp|hp
     ·obtain ⟨h1,-⟩:=HLR.out p hp;exact ⟨jobR_fits.below h1 hb4,fun b hb=>by rw [HXB.out];exact jobR_fits.lt h1 b hb⟩
     ·obtain rfl:=List.mem_singleton.1 hp;rw [htj];exact ⟨⟨.slice none 0 0,[],rfl,rfl,sl_noneT _⟩,by simp⟩
    have gT:=g1'.untr (fun p hp=>(hall p hp).1);have hmap:(L++[tj]).map (·.1)=y.told++[⟨0,A,⟨0,1,[]⟩⟩]:=by rw [List.map_append,HLM.out,htj];rfl
    rw [hmap] at gT;obtain ⟨fT,hfT⟩:∃ z,z=fr++((L++[tj]).map (·.2.2)).flatten:=⟨_,rfl⟩;rw [<- hfT] at gT;have nT:∀ b,b∈fT->b∉[xb]:=fun b hb e=>by
     have e:b=xb:=by simpa using e
     rw [hfT] at hb;rcases List.mem_append.1 hb with hb|hb
     ·have:=lo' b hb;have:=HZ5.out;omega
     ·obtain ⟨f,hf,hbf⟩:=List.mem_flatten.1 hb;obtain ⟨p,hp,rfl⟩:=List.mem_map.1 hf;have:=(hall p hp).2 b hbf;omega
    obtain ⟨w6,hw6⟩:∃ z,z=wb.setCell ⟨xb,5,none⟩ (.slice ta tn tc):=⟨_,rfl⟩;have ch6:Chg [xb] wb w6:=by rw [hw6];exact store_chg _
    have b46:Below w4.heap.size w4 w6:=((hb4.chg [xb]).trans' ch6).home (fun b hb=>by have:=HXB.out;simp at hb;omega);have HXS6:Hid (Six xb (.slice a0 n0 k0) (.slice a1 n1 k1) (.slice (some ⟨ab,ao,none⟩) 3 k2) (.slice a3 n3 k3) (.slice a4 n4 k4) (.slice ta tn tc) w6):=Lib.hid (by rw [hw6];exact XSb.set5);have GT:=Lib.hid (gT.chg jobR_fits ch6 nT);have HW6:=Lib.hid hw6;have XLT:Hid (xb<w6.heap.size):=Lib.hid (block_of_cell (HXS6.out 0 (by decide)));replace Z0:=Lib.hid (keep_cell b46 Z0.out);replace Z1:=Lib.hid (keep_cell b46 Z1.out);replace Z2:=Lib.hid (keep_cell b46 Z2.out);replace Z3:=Lib.hid (keep_cell b46 Z3.out);replace Z4:=Lib.hid (keep_cell b46 Z4.out);replace Z5:=Lib.hid (keep_cell b46 Z5.out);replace ZX0:=Lib.hid (keep_cell b46 ZX0.out);replace ZX1:=Lib.hid (keep_cell b46 ZX1.out);replace ZX2:=Lib.hid (keep_cell b46 ZX2.out);replace ZA:=Lib.hid (keep_cell b46 ZA.out);replace G0:=Lib.hid (SlR.below mrR_fits G0.out b46);replace G1:=Lib.hid (SlR.below intR_fits G1.out b46);replace G2:=Lib.hid (SlR.below (slR_fits reqR_fits) G2.out b46);replace PY:=Lib.hid (PY.out.below b46);replace HB:=Lib.hid (HB.out.trans (b46.mono HB.out.size));clear hR hst hI e10 cj o3 ho' hgr hblk hbb hb5 hb4 g1' lo' XSb hall gT hmap nT hfT hw6 ch6 b46 S2 S5 AQ HXF HLS5;go_upto_region 11 with fail
    rw [<- HW6.out];clear x5 xfb HW6;have s0:=Z0.out;have s1:=Z1.out;have s2:=Z2.out;have s3:=Z3.out;have s4:=Z4.out;have s5:=Z5.out;go_upto_region 12 with fail
    obtain ⟨w7,hw7⟩:∃ z,z=w6.alloc (.cells #[.slice a0 n0 k0,.slice a1 n1 k1,.slice (some ⟨ab,ao,none⟩) 3 k2,.slice a3 n3 k3,.slice a4 n4 k4,.slice a5 n5 k5] 70):=⟨_,rfl⟩;rw [<- hw7];have b7:Below w6.heap.size w6 w7:=by rw [hw7];exact below_alloc _ _
    have YS:Six w6.heap.size (.slice a0 n0 k0) (.slice a1 n1 k1) (.slice (some ⟨ab,ao,none⟩) 3 k2) (.slice a3 n3 k3) (.slice a4 n4 k4) (.slice a5 n5 k5) w7:=by rw [hw7];exact six_new _ _ _ _ _ _ _ _
    have yf:w7.frozen? ⟨w6.heap.size,2,none⟩=false:=by rw [hw7];exact alloc1_free _ _ _ _
    have hz7:w7.heap.size=w6.heap.size+1:=by rw [hw7];simp
    have S2:=keep_cell b7 s2;have AQ:=keep_cell b7 ZA.out;have PY7:=Lib.hid (PY.out.below b7);obtain ⟨yb,hyb⟩:∃ z,z=w6.heap.size:=⟨_,rfl⟩;rw [<- hyb] at YS yf hz7;rw [<- hyb];have HYB:=Lib.hid hyb;have HZ7:=Lib.hid hz7;have HYS:=Lib.hid YS;have HYF:=Lib.hid yf;have HB7:=Lib.hid b7;clear hw7 b7 YS yf hz7 hyb s0 s1 s2 s3 s4 s5;have hst:∀ F,F∈[FEq (.pointer (some ⟨bc+1,2,none⟩)),FEq (.slice (some ⟨ab,ao,none⟩) 3 k2),FEq (.pointer (some ⟨ab,ao,none⟩)),FEq (.int .i64 A),FEq (.int .i64 (A+1)),FOwn 1 IntC 3 w7.heap.size [A+1],FEq (.pointer (some ⟨bc+1,2,none⟩)),FEq (.slice (some ⟨ab,ao,none⟩) 3 k2),FEq (.slice (some ⟨ab,ao+1,none⟩) 2 (k2 - 1))]->Stable [] F:=by repeat first|exact st_nil|refine st_eq ?_|refine st_cons (by first|exact stOwn _ _ _ _ _) ?_
    refine wp_tailH hst tbFnTlmOk12 (fun _ w'=>Below w7.heap.size w7 w') 63 12 9 [some 42,some 43,some 44,some 45,some 46,some 47,some 48,some 49,some 50] _ [] ?h0 ?hop ?hend
    case h0=>exact (Below.refl _ _).drew
    case hop =>
     refine ⟨⟨⟨⟨⟨⟨⟨⟨⟨trivial,?_⟩,?_⟩,?_⟩,?_⟩,?_⟩,?_⟩,?_⟩,?_⟩,?_⟩
     ·exact Owes.k0 63 [(4,.pointer (some ⟨bc+1,0,none⟩))]
     ·exact Owes.c1 63 42 0 S2
     ·exact Owes.k1 63 43 1
     ·exact Owes.c1 63 44 2 AQ
     ·exact Owes.k1 63 45 3
     ·refine Owes.mk _ rfl rfl (fun _ _ h=>by cases h) fun u m w' hm hI hR=>⟨⟨(frm 63 [(46,u 4)]).toArray,[]⟩,rfl,fun d hd=>by cases hd;exact frm_lt (by decide),?_⟩;dsimp only [frm,List.foldl,List.replicate,List.set];have e4:u 4=_:=hR 4 (by decide);rw [e4];clear e4;have ba:=below_alloc w' (.cells #[.int .i64 (A+1)] 3);have HI:=Lib.hid hI;have HI2:=Lib.hid (hI.trans (ba.mono hI.size));have HS:=Lib.hid (facts_stable hst (ba.chg []));clear hI hst hR ba;go_wp2;exact ⟨rfl,_,rfl,OwnR.lit w' #[.int .i64 (A+1)] 1 [A+1] IntC_len rfl rfl HI.out.size (by unfold maxLen;omega),HI2.out,HS.out⟩
     ·exact Owes.k0 63 [(4,.pointer (some ⟨bc+1,0,none⟩))]
     ·exact Owes.c1 63 48 6 S2
     ·exact Owes.k1 63 49 7
    case hend =>
     intro u w' hI hR;simp only [setAll,List.set_cons_zero,List.set_cons_succ];have o5:OwnR 1 IntC 3 w7.heap.size w' (u 5) [A+1]:=hR 5 (by decide);have e8:u 8=_:=hR 8 (by decide);rw [e8];obtain ⟨fd,hd2,-⟩:=(PY7.out.below hI).h2.drop 1 (by decide);rw [Nat.mul_one] at hd2;refine wpList_appendB (c:=IntC) (news:=y.asked.drop 1) (l:=[A+1]) (base:=w7.heap.size) rfl _ _ 24 3 j0 (.int .i64 0) 8 IntC_len rfl Try.underlying24 ji jz0 jz1 jz2 rfl (by decide) (by decide) rfl rfl o5 (by have:=HL3.out;simp;omega) (by decide) (SlR.flat_cells IntC_len (by decide) hd2) (fun z hz=>by
      obtain ⟨q,-,hq⟩:=List.mem_flatMap.1 hz;simp only [IntC,List.mem_singleton] at hq;rw [hq];rfl) (by simp) (by decide) hI.size ?_
     intro v' wc ho' hgr hblk;have hbb:Below w7.heap.size w' wc:=grown_below o5 hgr hI.size;have hb7:Below w7.heap.size w7 wc:=hI.trans hbb;have hb6:Below w6.heap.size w6 wc:=HB7.out.trans (hb7.mono HB7.out.size);obtain ⟨fA,g1',lo',-,-⟩:=intRow_reads ho';obtain ⟨ta',tn',tc',rfl⟩:=g1'.form;have YSb:=HYS.out.chg (hb7.chg []) (by simp);have y2:=YSb 2 (by decide);simp only [List.getElem_cons_zero,List.getElem_cons_succ] at y2;have yfb:wc.frozen? ⟨yb,2,none⟩=false:=(World.frozen?_of_block (hb7.block yb (by have:=HZ7.out;omega))).trans HYF.out;have nA:∀ b,b∈fA->b∉[yb]:=fun b hb e=>by have:=lo' b hb;have:=HZ7.out;simp at e;omega
     obtain ⟨w8,hw8⟩:∃ z,z=wc.setCell ⟨yb,2,none⟩ (.slice ta' tn' tc'):=⟨_,rfl⟩;have ch8:Chg [yb] wc w8:=by rw [hw8];exact store_chg _
     have b68:Below w6.heap.size w6 w8:=((hb6.chg [yb]).trans' ch8).home (fun b hb=>by have:=HYB.out;simp at hb;omega);have YS8:Six yb (.slice a0 n0 k0) (.slice a1 n1 k1) (.slice ta' tn' tc') (.slice a3 n3 k3) (.slice a4 n4 k4) (.slice a5 n5 k5) w8:=by rw [hw8];exact YSb.set2
     have XS8:=HXS6.out.chg (b68.chg []) (by simp);have GA:=Lib.hid (g1'.chg intR_fits ch8 nA);have GT8:=Lib.hid (SlR.below jobR_fits GT.out b68);have HW8:=Lib.hid hw8;replace Z0:=Lib.hid (keep_cell b68 Z0.out);replace Z1:=Lib.hid (keep_cell b68 Z1.out);replace Z2:=Lib.hid (keep_cell b68 Z2.out);replace Z3:=Lib.hid (keep_cell b68 Z3.out);replace Z4:=Lib.hid (keep_cell b68 Z4.out);replace Z5:=Lib.hid (keep_cell b68 Z5.out);replace ZX0:=Lib.hid (keep_cell b68 ZX0.out);replace ZX1:=Lib.hid (keep_cell b68 ZX1.out);replace ZX2:=Lib.hid (keep_cell b68 ZX2.out);replace ZA:=Lib.hid (keep_cell b68 ZA.out);replace G0:=Lib.hid (SlR.below mrR_fits G0.out b68);replace G1:=Lib.hid (SlR.below intR_fits G1.out b68);replace G2:=Lib.hid (SlR.below (slR_fits reqR_fits) G2.out b68);replace PY:=Lib.hid (PY.out.below b68);replace HB:=Lib.hid (HB.out.trans (b68.mono HB.out.size));have YH:Hid (Six yb (.slice a0 n0 k0) (.slice a1 n1 k1) (.slice ta' tn' tc') (.slice a3 n3 k3) (.slice a4 n4 k4) (.slice a5 n5 k5) w8):=Lib.hid YS8;have XH:Hid (Six xb (.slice a0 n0 k0) (.slice a1 n1 k1) (.slice (some ⟨ab,ao,none⟩) 3 k2) (.slice a3 n3 k3) (.slice a4 n4 k4) (.slice ta tn tc) w8):=Lib.hid XS8;clear hR hst hI e8 o5 hd2 ho' hgr hblk hbb hb7 hb6 g1' lo' YSb nA hw8 ch8 b68 S2 AQ HYF YS8 XS8 GT;go_upto_region 13 with fail
     rw [<- HW8.out];clear y2 yfb HW8;have X0:=ZX0.out;have X1:=ZX1.out;have X2:=ZX2.out;have t0:=XH.out 0 (by decide);have t1:=XH.out 1 (by decide);have t2:=XH.out 2 (by decide);have t3:=XH.out 3 (by decide);have t4:=XH.out 4 (by decide);have t5:=XH.out 5 (by decide);simp only [List.getElem_cons_zero,List.getElem_cons_succ] at t0 t1 t2 t3 t4 t5;go_wp2_with fail
     refine (iTlmOk_any x _ _ _ f0 f1 f2 ⟨y.atm,y.asked,y.wait,y.done,y.told++[⟨0,A,⟨0,1,[]⟩⟩]⟩ _ _ _ _ _ _ g0 g1 g2 g3 g4 fT _ G0.out G1.out G2.out PY.out.h0 PY.out.h1 PY.out.h2 PY.out.h3 PY.out.h4 GT8.out).mono ?_;rw [HNT.out];rintro e w9 ⟨rfl,b9⟩;clear t0 t1 t2 t3 t4 t5;replace X0:=keep_cell b9 X0;replace X1:=keep_cell b9 X1;replace X2:=keep_cell b9 X2;have YH9:=YH.out.chg (b9.chg []) (by simp);have t0:=YH9 0 (by decide);have t1:=YH9 1 (by decide);have t2:=YH9 2 (by decide);have t3:=YH9 3 (by decide);have t4:=YH9 4 (by decide);have t5:=YH9 5 (by decide);simp only [List.getElem_cons_zero,List.getElem_cons_succ] at t0 t1 t2 t3 t4 t5;replace G0:=Lib.hid (SlR.below mrR_fits G0.out b9);replace G1:=Lib.hid (SlR.below intR_fits G1.out b9);replace G2:=Lib.hid (SlR.below (slR_fits reqR_fits) G2.out b9);replace PY:=Lib.hid (PY.out.below b9);replace GA:=Lib.hid (SlR.below intR_fits GA.out b9);replace HB:=Lib.hid (HB.out.trans (b9.mono HB.out.size));clear b9 YH9;go_wp2_with fail
     refine (iTlmOk_any x _ _ _ f0 f1 f2 ⟨y.atm,(A+1)::y.asked.drop 1,y.wait,y.done,y.told⟩ _ _ _ _ _ _ g0 g1 fA g3 g4 g5 _ G0.out G1.out G2.out PY.out.h0 PY.out.h1 GA.out PY.out.h3 PY.out.h4 PY.out.h5).mono ?_;rw [HNA.out];rintro e w10 ⟨rfl,b10⟩;have HBz:=Lib.hid (HB.out.trans (b10.mono HB.out.size));clear b10;go_wp2;go_ret;exact ⟨rfl,HBz.out⟩
namespace fnTlmOk
set_option maxRecDepth 100000 in
theorem lifted (os:Os) (started:os.Started) (H:Type) (enc:TypeId × Value->H) :
 ReturnsInHanded {} Try.checked os 9 .any (Rows.fnTlmOkSpec.pre6 enc Try.prog Try.f9 Rows.fnTlmOkRow.domain false) (Rows.fnTlmOkSpec.post enc Try.prog Try.f9 false true false false):=by
 refine returnsInHanded_of_change (C:=Try.checked) own started (by kernel_rfl) Try.func9
  (ChangeSpec.witness6 (enc:=enc) (C:=Try.checked) false ⟨#[],#[.slice none 0 0],[]⟩ 8 (by kernel_rfl) (by kernel_rfl) (by kernel_rfl) (by kernel_rfl)) ?_
 intro W base args ds gs before hval0 hW hcnd _;have hval:∀ (j:Nat) t v,Try.f9.params[j]?=some t->args[j]?=some v->Value.okWide Try.prog W .any base t v:=hval0;have hW':=hW;obtain ⟨p,q,hA0,hV,rfl,hfz,hnd⟩:=hW;have hA:DataW.TrodAll enc Try.prog W 0 (fun _=>true) true Try.f9.params.toList args.toList ds p:=hA0;rw [Try.params9] at hA hval;obtain ⟨v0,vs0,d0,ds0,p0,q0,hargs,rfl,rfl,h0,r0⟩:=trodAll_cons hA;obtain ⟨rfl,rfl,rfl⟩:=trodAll_nil r0;obtain rfl:args = #[v0]:=by cases args;simp_all
 obtain ⟨rfl,rfl⟩:=trodVars_none hV;clear hA0 hval0;simp only [List.append_nil] at hW';have hlt0:∀ x∈p0,x.block<W.heap.size:=fun x hx=>by simpa using hW'.lt x (by simp [hx])
 have hk0:=h0;obtain ⟨ad0,len0,cap0,rfl⟩:=okWide_slice Try.underlying22 (hval 0 22 v0 rfl rfl);obtain ⟨fuel0,hf0⟩:=h0;obtain ⟨x0,fp0,y0,e0,g0⟩:=(opens_slice Try.underlying22 (by kernel_rfl) (by decide) (opens_byte Try.underlying5) byteR_fits) hf0;obtain rfl : .slice ad0 len0 cap0=y0:=by simpa [Value.cells] using e0
 refine (walk (.slice ad0 len0 cap0) x0 fp0 W g0).mono fun e W' ⟨he,hb⟩=>?_;subst he;exact ⟨_,rfl,_,_,_,[],_,[],hW',(trodAll_cons_mk (shut_bool Try.underlying4 _) trodAll_mk0),(trodAll_cons_mk (Below.trod laidOut (by kernel_rfl) (of_decide_eq_true (by kernel_rfl)) hk0 hb hlt0) trodAll_mk0),rfl,hb.frame _,fun h=>by cases h⟩
theorem over:Rows.fnTlmOkRow.holds Try.pinned (OpenSpec.ofChange Rows.fnTlmOkSpec) :=
 OpenClaim.holds_of_wide 9 Try.f9 rfl rfl rfl rfl rfl rfl rfl ⟨rfl,rfl,rfl,rfl,rfl⟩ rfl rfl rfl rfl rfl (by kernel_rfl) Try.func9 (by kernel_rfl)
  (of_decide_eq_true (by kernel_rfl)) (by unfold Func.isWrapper;first|(rw [if_pos (by decide +kernel)];kernel_rfl)|(rw [if_neg (by decide +kernel)];exact ⟨rfl,rfl⟩))
  (fun os started H enc _=>lifted os started H enc)
theorem proved : Rows.FnTlmOkSaid :=
 over
#print axioms proved
end fnTlmOk
end Go.Proofs.Ytmcjklicepaiaaa
