/-
 Texts of this claim laid together: DReqC.
-/
import Derived.Test.YtmcjklicepaiaaaPk39
import Derived.Deep.DeepCutAuto
import Derived.Deep.CutBlock
import Derived.WalkSmall
set_option linter.unusedVariables false
set_option linter.unusedSimpArgs false
namespace Go.Proofs.Ytmcjklicepaiaaa
open Go.RowKit Go.ChangeShapes Go.WideShapes
set_option maxRecDepth 100000 in
set_option maxHeartbeats 3200000 in
theorem l20Req_wrong (rb bq:Nat) (fq:List Nat) (N n:Int) (W0 ww:World) (x:Req) (vd vl:Value) (b:Bool) (hN:N<=990000000) (hrbq:rb<bq) (FLB:Hid (∀ k,k∈fq->k<bq)) (HQ4:Hid (QAt bq ww x vd vl)) (hd4:x.data.length<=4) (hl4:x.lanes.length<=4) (HOK:Hid (reqOk x=true)) (HB:Hid (9000<=n->b=false)) (HR4:Hid (RdAt ww rb fq (N+710))) (HC4:Hid (Low rb bq W0 ww)) (K:Act->World->Prop) (Q:Exit->Act->World->Prop) {s2 s3 s4 s6 s7 s8 s9 s10 s11 s12 s13 s14 s15 s16 s17 s18 s19 s20 s21 s22 s23 s24 s25 s26 s27 s28 s29 s30 s31 s32 s33 s34 s35 s36 s37 s38 s39 s40 s41 s42 s43 s44 s45 s46 s47 s48 s49 s50 s51 s52 s53 s54 s55 s56 s57 s58 s59 s60 s61 s62 s63 s64 s65 s66 s67 s68 s69 s70 s71 s72 s73 s74 s75 s76 s77 s78 s79 s80 s81 s82 s83 s84 s85 s86 s87 s88 s89 s90 s92 s93 s94 s95 s96 s97 s98 s99 s100 s101 s102 s103 s104 s105 s106 s107 s108 s109 s110 s111 s112 s113 s114 s115 s116 s117 s118 s119 s120 s121 s122 s123 s124 s125 s126 s127 s128 s129 s130 s131 s132 s133 s134 s135 s136 s137 s138 s139 s140 s141 s142 s143 s144 s145 s146 s147 s148 s149 s150 s151 s152:Value} (hK:Hid (∀ {wc:World} {t92 t93 t94 t95 t96 t97 t98 t99 t100 t101 t102 t103 t104 t105 t106 t107 t108 t109 t110 t111 t112 t113 t114 t115 t116 t117 t118 t119 t120 t121 t122 t123 t124 t125 t126 t127 t128 t129 t130 t131 t132 t133 t134 t135 t136 t137 t138 t139 t140 t141 t142 t143 t144 t145 t146 t147 t148 t149 t150 t151:Value},(∃ (x:Req) (vd vl:Value),QAt bq wc x vd vl∧x.data.length<=20∧x.lanes.length<=20∧(9000<=n->reqOk x=true)∧RdAt wc rb fq (N+900)∧Low rb bq W0 wc)->K ⟨#[.pointer (some ⟨rb,0,none⟩),.int .i64 n,s2,s3,s4,.pointer (some ⟨bq,0,none⟩),s6,s7,s8,s9,s10,s11,s12,s13,s14,s15,s16,s17,s18,s19,s20,s21,s22,s23,s24,s25,s26,s27,s28,s29,s30,s31,s32,s33,s34,s35,s36,s37,s38,s39,s40,s41,s42,s43,s44,s45,s46,s47,s48,s49,s50,s51,s52,s53,s54,s55,s56,s57,s58,s59,s60,s61,s62,s63,s64,s65,s66,s67,s68,s69,s70,s71,s72,s73,s74,s75,s76,s77,s78,s79,s80,s81,s82,s83,s84,s85,s86,s87,s88,s89,s90,.bool b,t92,t93,t94,t95,t96,t97,t98,t99,t100,t101,t102,t103,t104,t105,t106,t107,t108,t109,t110,t111,t112,t113,t114,t115,t116,t117,t118,t119,t120,t121,t122,t123,t124,t125,t126,t127,t128,t129,t130,t131,t132,t133,t134,t135,t136,t137,t138,t139,t140,t141,t142,t143,t144,t145,t146,t147,t148,t149,t150,t151,s152],[]⟩ wc)) :
 Code.wp Try.prog (ifAt 91 Try.f45) (Exit.then K Q) ⟨#[.pointer (some ⟨rb,0,none⟩),.int .i64 n,s2,s3,s4,.pointer (some ⟨bq,0,none⟩),s6,s7,s8,s9,s10,s11,s12,s13,s14,s15,s16,s17,s18,s19,s20,s21,s22,s23,s24,s25,s26,s27,s28,s29,s30,s31,s32,s33,s34,s35,s36,s37,s38,s39,s40,s41,s42,s43,s44,s45,s46,s47,s48,s49,s50,s51,s52,s53,s54,s55,s56,s57,s58,s59,s60,s61,s62,s63,s64,s65,s66,s67,s68,s69,s70,s71,s72,s73,s74,s75,s76,s77,s78,s79,s80,s81,s82,s83,s84,s85,s86,s87,s88,s89,s90,.bool b,s92,s93,s94,s95,s96,s97,s98,s99,s100,s101,s102,s103,s104,s105,s106,s107,s108,s109,s110,s111,s112,s113,s114,s115,s116,s117,s118,s119,s120,s121,s122,s123,s124,s125,s126,s127,s128,s129,s130,s131,s132,s133,s134,s135,s136,s137,s138,s139,s140,s141,s142,s143,s144,s145,s146,s147,s148,s149,s150,s151,s152],[]⟩ ww:=by
 conv=>arg 2;whnf
 let QQ:=@bodyPost Try.prog Try.f45
 obtain ⟨i0,ki,kz0,kz1,kz2⟩:=info_parts infoInt;cases b
 ·go_wp2_with fail
  exact hK.out ⟨x,vd,vl,HQ4.out,by omega,by omega,fun _=>HOK.out,HR4.out.mono (by omega),HC4.out⟩
 ·have HN:Hid (9000<=n->False):=Lib.hid (fun h=>by have:=HB.out h;cases this);have HD4:=Lib.hid hd4;have HL4:=Lib.hid hl4;clear HB HOK hd4 hl4;go_wp2_with fail
  refine (pick_any rb fq (N+710) 7 (by omega) (by omega) (by omega) _ HR4.out).mono ?_;rintro e w5 ⟨x5,rfl,lo5,hi5,h1,h2⟩;have HQ5:=Lib.hid (QAt.chg HQ4.out h2 hrbq);have HR5:=Lib.hid (h1.mono (show N+710+1<=N+720 by omega));have HC5:=Lib.hid (Low.step HC4.out h2 (fun k hk=>by simp at hk;omega));clear h1 h2 HQ4 HR4 HC4;have hx:x5=0∨x5=1∨x5=2∨x5=3∨x5=4∨x5=5∨x5=6:=by omega
  rcases hx with rfl|rfl|rfl|rfl|rfl|rfl|rfl
  ·go_wp2_with fail
   have ba:=below_alloc w5 (.cells #[.int .i64 (-1),.int .i64 2] 3);have nw:w5.heap.size∉[rb]:=by have:=HQ5.out.lt;simp;omega
   refine (pick_any rb fq (N+720) 2 (by omega) (by omega) (by omega) _ (HR5.out.below ba)).mono ?_;rintro e w6 ⟨x6,rfl,lo6,hi6,h1,h2⟩;have d0:=keep_cell_chg h2 (alloc1_new w5 _ _ 0 rfl) nw;have d1:=keep_cell_chg h2 (alloc1_new w5 _ _ 1 rfl) nw;have HQ6:=Lib.hid (QAt.chg (QAt.below HQ5.out ba) h2 hrbq);have HR6:=Lib.hid h1;have HC6:=Lib.hid (Low.step (Low.below HC5.out (ba.mono (Nat.le_of_lt HQ5.out.lt))) h2 (fun k hk=>by simp at hk;omega));have c:=HQ6.out.c0;have f:=HQ6.out.fz 0;clear h1 h2 ba HQ5 HR5 HC5;have hx:x6=0∨x6=1:=by omega
   rcases hx with rfl|rfl
   all_goals
    go_wp2_with fail
   all_goals
    exact hK.out ⟨_,_,_,HQ6.out.setId _,Nat.le_trans HD4.out (by decide),Nat.le_trans HL4.out (by decide),fun h=>(HN.out h).elim,(HR6.out.chg (store_chg _) (by simp;omega) (fun b hb hb'=>by have:=FLB.out b hb;simp at hb';omega)).mono (by omega),HC6.out.step (store_chg _) (fun k hk=>by simp at hk;omega)⟩
  ·go_wp2_with fail
   have ba:=below_alloc w5 (.cells #[.int .i64 0,.int .i64 5] 3);have nw:w5.heap.size∉[rb]:=by have:=HQ5.out.lt;simp;omega
   refine (pick_any rb fq (N+720) 2 (by omega) (by omega) (by omega) _ (HR5.out.below ba)).mono ?_;rintro e w6 ⟨x6,rfl,lo6,hi6,h1,h2⟩;have d0:=keep_cell_chg h2 (alloc1_new w5 _ _ 0 rfl) nw;have d1:=keep_cell_chg h2 (alloc1_new w5 _ _ 1 rfl) nw;have HQ6:=Lib.hid (QAt.chg (QAt.below HQ5.out ba) h2 hrbq);have HR6:=Lib.hid h1;have HC6:=Lib.hid (Low.step (Low.below HC5.out (ba.mono (Nat.le_of_lt HQ5.out.lt))) h2 (fun k hk=>by simp at hk;omega));have c:=HQ6.out.c1;have f:=HQ6.out.fz 1;clear h1 h2 ba HQ5 HR5 HC5;have hx:x6=0∨x6=1:=by omega
   rcases hx with rfl|rfl
   all_goals
    go_wp2_with fail
   all_goals
    exact hK.out ⟨_,_,_,HQ6.out.setKind _,Nat.le_trans HD4.out (by decide),Nat.le_trans HL4.out (by decide),fun h=>(HN.out h).elim,(HR6.out.chg (store_chg _) (by simp;omega) (fun b hb hb'=>by have:=FLB.out b hb;simp at hb';omega)).mono (by omega),HC6.out.step (store_chg _) (fun k hk=>by simp at hk;omega)⟩
  ·go_wp2_with fail
   have ba:=below_alloc w5 (.cells #[.int .i64 (-1),.int .i64 64,.int .i64 63] 3);have nw:w5.heap.size∉[rb]:=by have:=HQ5.out.lt;simp;omega
   refine (pick_any rb fq (N+720) 3 (by omega) (by omega) (by omega) _ (HR5.out.below ba)).mono ?_;rintro e w6 ⟨x6,rfl,lo6,hi6,h1,h2⟩;have d0:=keep_cell_chg h2 (alloc1_new w5 _ _ 0 rfl) nw;have d1:=keep_cell_chg h2 (alloc1_new w5 _ _ 1 rfl) nw;have d2:=keep_cell_chg h2 (alloc1_new w5 _ _ 2 rfl) nw;have HQ6:=Lib.hid (QAt.chg (QAt.below HQ5.out ba) h2 hrbq);have HR6:=Lib.hid h1;have HC6:=Lib.hid (Low.step (Low.below HC5.out (ba.mono (Nat.le_of_lt HQ5.out.lt))) h2 (fun k hk=>by simp at hk;omega));have c:=HQ6.out.c2;have f:=HQ6.out.fz 2;clear h1 h2 ba HQ5 HR5 HC5;have hx:x6=0∨x6=1∨x6=2:=by omega
   rcases hx with rfl|rfl|rfl
   all_goals
    go_wp2_with fail
   all_goals
    exact hK.out ⟨_,_,_,HQ6.out.setAddr _,Nat.le_trans HD4.out (by decide),Nat.le_trans HL4.out (by decide),fun h=>(HN.out h).elim,(HR6.out.chg (store_chg _) (by simp;omega) (fun b hb hb'=>by have:=FLB.out b hb;simp at hb';omega)).mono (by omega),HC6.out.step (store_chg _) (fun k hk=>by simp at hk;omega)⟩
  ·go_wp2_with fail
   have ba:=below_alloc w5 (.cells #[.int .i64 0,.int .i64 3,.int .i64 8,.int .i64 4] 3);have nw:w5.heap.size∉[rb]:=by have:=HQ5.out.lt;simp;omega
   refine (pick_any rb fq (N+720) 4 (by omega) (by omega) (by omega) _ (HR5.out.below ba)).mono ?_;rintro e w6 ⟨x6,rfl,lo6,hi6,h1,h2⟩;have d0:=keep_cell_chg h2 (alloc1_new w5 _ _ 0 rfl) nw;have d1:=keep_cell_chg h2 (alloc1_new w5 _ _ 1 rfl) nw;have d2:=keep_cell_chg h2 (alloc1_new w5 _ _ 2 rfl) nw;have d3:=keep_cell_chg h2 (alloc1_new w5 _ _ 3 rfl) nw;have HQ6:=Lib.hid (QAt.chg (QAt.below HQ5.out ba) h2 hrbq);have HR6:=Lib.hid h1;have HC6:=Lib.hid (Low.step (Low.below HC5.out (ba.mono (Nat.le_of_lt HQ5.out.lt))) h2 (fun k hk=>by simp at hk;omega));have c:=HQ6.out.c3;have f:=HQ6.out.fz 3;clear h1 h2 ba HQ5 HR5 HC5;have hx:x6=0∨x6=1∨x6=2∨x6=3:=by omega
   rcases hx with rfl|rfl|rfl|rfl
   all_goals
    go_wp2_with fail
   all_goals
    exact hK.out ⟨_,_,_,HQ6.out.setMany _,Nat.le_trans HD4.out (by decide),Nat.le_trans HL4.out (by decide),fun h=>(HN.out h).elim,(HR6.out.chg (store_chg _) (by simp;omega) (fun b hb hb'=>by have:=FLB.out b hb;simp at hb';omega)).mono (by omega),HC6.out.step (store_chg _) (fun k hk=>by simp at hk;omega)⟩
  ·have HO5:=Lib.hid HQ5.out.d;have c5:=HQ5.out.c5;have hws:bq<w5.heap.size:=HQ5.out.lt;have hgw5:bq+1<=w5.heap.size:=by omega
   have HQa:=Lib.hid (QAt.below HQ5.out (below_alloc w5 (.cells #[.int .i64 5] 3)));have HO5a:=Lib.hid HQa.out.d;have hga:bq+1<=(w5.alloc (.cells #[.int .i64 5] 3)).heap.size:=by simp;omega
   have hnews:∀ (j:Nat) (u:Value),(([5]:List Int).flatMap IntC)[j]?=some u->(w5.alloc (.cells #[.int .i64 5] 3)).cell? ((⟨w5.heap.size,0,none⟩:Addr).add j)=some u:=fun j u hj=>by
    have hj0:j=0:=by have:=(List.getElem?_eq_some_iff.1 hj).1;simpa [IntC] using this
    subst hj0;simp [IntC] at hj;subst hj;exact alloc1_new _ _ _ 0 rfl
   have hneb:some bq≠vd.ownBlock:=fun e=>by have:=(own_lt HO5.out e.symm).1;omega
   have HYL:Hid (x.data.length<=2000000):=Lib.hid (Nat.le_trans HD4.out (by decide));clear HO5;go_wp2_with (at_builtin;go_loud (refine wpList_appendB (K:=1) (c:=IntC) (l:=x.data) (news:=[5]) (base:=bq+1) rfl _ _ 24 3 i0 (.int .i64 0) 8 IntC_len rfl Try.underlying24 ki kz0 kz1 kz2 rfl (by decide) (by decide) rfl rfl HO5a.out rfl (by decide) hnews (by simp [IntC,Value.oneCell']) HYL.out (by decide) hga ?_);intro v' w6 hown' hg' hbl;go_loud (obtain ⟨va,vn,vc,rfl,_⟩:=OwnR.slice hown');go_loud (have c6:=hg'.cell (alloc_keep c5 _) hneb);go_loud (have f6:=(World.frozen?_of_block (hg'.block bq (by simp;omega) hneb)).trans (HQa.out.fz 5));go_loud (have HQn:=Lib.hid (QAt.pushD HQa.out hg' hown' hbl));go_loud (have HB6:=Lib.hid (grown_below HO5a.out hg' hga));clear hown' hg' hbl)
   have hb6:Below (bq+1) w5 w6:=Below.trans ((below_alloc w5 _).mono hgw5) HB6.out;exact hK.out ⟨_,_,_,HQn.out,(by show (x.data++[_]).length<=20;have:=HD4.out;simp;omega),Nat.le_trans HL4.out (by decide),fun h=>(HN.out h).elim,((HR5.out.low hb6 (by omega) (fun b hb=>by have:=FLB.out b hb;omega)).chg (store_chg _) (by simp;omega) (fun b hb hb'=>by have:=FLB.out b hb;simp at hb';omega)).mono (by omega),(HC5.out.below (hb6.mono (by omega))).step (store_chg _) (fun k hk=>by simp at hk;omega)⟩
  ·have HO5:=Lib.hid HQ5.out.l;have c5:=HQ5.out.c6;have hws:bq<w5.heap.size:=HQ5.out.lt;have hgw5:bq+1<=w5.heap.size:=by omega
   have HQa:=Lib.hid (QAt.below HQ5.out (below_alloc w5 (.cells #[.int .i64 1] 3)));have HO5a:=Lib.hid HQa.out.l;have hga:bq+1<=(w5.alloc (.cells #[.int .i64 1] 3)).heap.size:=by simp;omega
   have hnews:∀ (j:Nat) (u:Value),(([1]:List Int).flatMap IntC)[j]?=some u->(w5.alloc (.cells #[.int .i64 1] 3)).cell? ((⟨w5.heap.size,0,none⟩:Addr).add j)=some u:=fun j u hj=>by
    have hj0:j=0:=by have:=(List.getElem?_eq_some_iff.1 hj).1;simpa [IntC] using this
    subst hj0;simp [IntC] at hj;subst hj;exact alloc1_new _ _ _ 0 rfl
   have hneb:some bq≠vl.ownBlock:=fun e=>by have:=(own_lt HO5.out e.symm).1;omega
   have HYL:Hid (x.lanes.length<=2000000):=Lib.hid (Nat.le_trans HL4.out (by decide));clear HO5;go_wp2_with (at_builtin;go_loud (refine wpList_appendB (K:=1) (c:=IntC) (l:=x.lanes) (news:=[1]) (base:=bq+1) rfl _ _ 24 3 i0 (.int .i64 0) 8 IntC_len rfl Try.underlying24 ki kz0 kz1 kz2 rfl (by decide) (by decide) rfl rfl HO5a.out rfl (by decide) hnews (by simp [IntC,Value.oneCell']) HYL.out (by decide) hga ?_);intro v' w6 hown' hg' hbl;go_loud (obtain ⟨va,vn,vc,rfl,_⟩:=OwnR.slice hown');go_loud (have c6:=hg'.cell (alloc_keep c5 _) hneb);go_loud (have f6:=(World.frozen?_of_block (hg'.block bq (by simp;omega) hneb)).trans (HQa.out.fz 6));go_loud (have HQn:=Lib.hid (QAt.pushL HQa.out hg' hown' hbl));go_loud (have HB6:=Lib.hid (grown_below HO5a.out hg' hga));clear hown' hg' hbl)
   have hb6:Below (bq+1) w5 w6:=Below.trans ((below_alloc w5 _).mono hgw5) HB6.out;exact hK.out ⟨_,_,_,HQn.out,Nat.le_trans HD4.out (by decide),(by show (x.lanes++[_]).length<=20;have:=HL4.out;simp;omega),fun h=>(HN.out h).elim,((HR5.out.low hb6 (by omega) (fun b hb=>by have:=FLB.out b hb;omega)).chg (store_chg _) (by simp;omega) (fun b hb hb'=>by have:=FLB.out b hb;simp at hb';omega)).mono (by omega),(HC5.out.below (hb6.mono (by omega))).step (store_chg _) (fun k hk=>by simp at hk;omega)⟩
  ·have c5:=HQ5.out.c5;by_cases hne:x.data=[]
   ·obtain ⟨va,vn,vc,rfl,hvn,_,_⟩:=OwnR.slice HQ5.out.d;obtain rfl:vn=0:=by rw [<- hvn,hne];rfl
    clear hvn hne;go_wp2_with fail
    exact hK.out ⟨x,_,_,HQ5.out,Nat.le_trans HD4.out (by decide),Nat.le_trans HL4.out (by decide),fun h=>(HN.out h).elim,HR5.out.mono (by omega),HC5.out⟩
   ·obtain ⟨g,cap,rfl,hbg,hgw,hnc,hcm⟩:=OwnR.form HQ5.out.d hne;have hpos:0<x.data.length:=List.length_pos_iff.2 hne;obtain ⟨nn,hnn⟩:∃ n,n=x.data.length:=⟨_,rfl⟩;have HNN:=Lib.hid hnn;rw [<- hnn] at HQ5 c5 hpos hnc;have hposi:0<(nn:Int):=by omega
    clear hnn hne;have nbq:bq∉[rb]:=by simp;omega
    go_wp2_with fail
    have hst:∀ F,F∈[FEq (.pointer (some ⟨bq,5,none⟩)),FEq (.slice (some ⟨g,0,none⟩) nn cap),FSl [rb] 2 (-1) (65536),FEq (.pointer (some ⟨rb,0,none⟩)),FInt (0) (1),FPtr [rb] (-1) (65536),FInt (-1) (65536)]->Stable [rb] F:=by
     simp only [List.forall_mem_cons];exact ⟨stEq _ _,stEq _ _,stSl _ _ _ _,stEq _ _,stInt _ _ _,stPtr _ _ _,stInt _ _ _,fun _ h=>by simp at h⟩
    refine wp_region_tail (by kernel_rfl) (fun i=>([[],[0],[],[],[3],[2,3,4],[2,3,4,5],[0,1,2,3,4,5,6],[0,1,2,3,4,5,6,7]]:List (List Nat)).getD i []) (facts [FEq (.pointer (some ⟨bq,5,none⟩)),FEq (.slice (some ⟨g,0,none⟩) nn cap),FSl [rb] 2 (-1) (65536),FEq (.pointer (some ⟨rb,0,none⟩)),FInt (0) (1),FPtr [rb] (-1) (65536),FInt (-1) (65536)]) (fun m w'=>RdAt w' rb fq ((N+720)+10*m)∧Chg [rb] w5 w') 153 9 7 [some 98,some 99,some 100,some 101,some 102,some 103,some 104] _ rfl rfl (by decide) rfl rfl (by kernel_rfl) (by kernel_rfl) [] (by kernel_rfl) (fun g b hm v w h=>by simp at hm) ?h0 (all_lt (n:=7) ?hop) ?hend
    case h0=>exact ⟨(HR5.out.below (Below.refl _ _).drew).mono (by omega),(Chg.refl _ _).drewN 1⟩
    case hop =>
     refine ⟨⟨⟨⟨⟨⟨⟨trivial,?_⟩,?_⟩,?_⟩,?_⟩,?_⟩,?_⟩,?_⟩
     ·refine Owes.mk _ rfl rfl (fun _ _ h=>by cases h) fun u m w' hm ⟨hI,hc⟩ hR=>⟨⟨(frm 153 [(5,.pointer (some ⟨bq,0,none⟩))]).toArray,[]⟩,rfl,fun d hd=>by cases hd;exact frm_lt (by decide),?_⟩;dsimp only [frm,List.foldl,List.replicate,List.set];have hm:m<9:=hm;clear hR;have k0:=keep_cell_chg hc c5 nbq;clear hst;go_wp2;exact ⟨rfl,_,rfl,rfl,⟨hI.mono (by omega),hc⟩,fun _ _ h=>h⟩
     ·refine Owes.mk _ rfl rfl (fun _ _ h=>by cases h) fun u m w' hm ⟨hI,hc⟩ hR=>⟨⟨(frm 153 [(98,u 0)]).toArray,[]⟩,rfl,fun d hd=>by cases hd;exact frm_lt (by decide),?_⟩;dsimp only [frm,List.foldl,List.replicate,List.set];have hm:m<9:=hm;have ev0:u 0=_:=hR 0 (by decide);clear hR;rw [ev0];have k0:=keep_cell_chg hc c5 nbq;clear hst;go_wp2;exact ⟨rfl,_,rfl,rfl,⟨hI.mono (by omega),hc⟩,fun _ _ h=>h⟩
     ·refine Owes.mk _ rfl rfl (fun _ _ h=>by cases h) fun u m w' hm ⟨hI,hc⟩ hR=>⟨⟨(frm 153 []).toArray,[]⟩,rfl,fun d hd=>by cases hd;exact frm_lt (by decide),?_⟩;dsimp only [frm,List.foldl,List.replicate,List.set];have hm:m<9:=hm;clear hR;have hlt:=hI.lt;have nb:w'.heap.size∉[rb]:=by simp;omega
      have HL:=Lib.hid hlt;have HI:=Lib.hid hI;have HC:=Lib.hid hc;clear hI hc hlt;go_wp2;have ba:∀ A:Array Value,Below w'.heap.size w' (w'.alloc (.cells A 3)):=fun A=>below_alloc _ _;refine ⟨rfl,_,rfl,⟨_,rfl,nb,fun i hi=>?_⟩,⟨(HI.out.below (ba _)).mono (by omega),HC.out.trans' ((ba _).chg _)⟩,facts_stable hst ((ba _).chg _)⟩;have hx:i=0∨i=1:=by omega
      rcases hx with rfl|rfl
      ·exact ⟨(-1),by omega,by omega,alloc1_new _ _ _ 0 rfl⟩
      ·exact ⟨(65536),by omega,by omega,alloc1_new _ _ _ 1 rfl⟩
     ·refine Owes.mk _ rfl rfl (fun _ _ h=>by cases h) fun u m w' hm ⟨hI,hc⟩ hR=>⟨⟨(frm 153 [(0,.pointer (some ⟨rb,0,none⟩))]).toArray,[]⟩,rfl,fun d hd=>by cases hd;exact frm_lt (by decide),?_⟩;dsimp only [frm,List.foldl,List.replicate,List.set];have hm:m<9:=hm;clear hR;go_wp2;exact ⟨rfl,_,rfl,rfl,⟨hI.mono (by omega),hc⟩,fun _ _ h=>h⟩
     ·refine Owes.mk _ rfl rfl (fun _ _ h=>by cases h) fun u m w' hm ⟨hI,hc⟩ hR=>⟨⟨(frm 153 [(101,u 3)]).toArray,[]⟩,rfl,fun d hd=>by cases hd;exact frm_lt (by decide),?_⟩;dsimp only [frm,List.foldl,List.replicate,List.set];have hm:m<9:=hm;have ea0:u 3=_:=hR 3 (by decide);clear hR;rw [ea0];go_wp2_with fail
      refine (pick_any rb fq ((N+720)+10*m) 2 (by omega) (by omega) (by omega) _ hI).mono ?_;rintro e w2 ⟨x,rfl,lo,hi,g1,g2⟩;have hs:=facts_stable hst g2;have G1:=Lib.hid (g1.mono (show (N+720)+10*(m:Int)+1<=(N+720)+10*((m+1:Nat):Int) by omega));have G2:=Lib.hid (hc.trans' g2);have HS:=Lib.hid hs;clear g1 g2 hs hc hI hst;go_wp2;exact ⟨rfl,_,rfl,⟨x,by omega,by omega,rfl⟩,⟨G1.out,G2.out⟩,HS.out⟩
     ·refine Owes.mk _ rfl rfl (fun _ _ h=>by cases h) fun u m w' hm ⟨hI,hc⟩ hR=>⟨⟨(frm 153 [(100,u 2),(102,u 4)]).toArray,[]⟩,rfl,fun d hd=>by cases hd;exact frm_lt (by decide),?_⟩;dsimp only [frm,List.foldl,List.replicate,List.set];have hm:m<9:=hm;obtain ⟨bs,es,ns,cs⟩:=hR 2 (by decide);obtain ⟨xi,li,hi,ei⟩:=hR 4 (by decide);obtain ⟨q,rfl⟩:=Int.eq_ofNat_of_zero_le li;obtain ⟨y,hy1,hy2,hy⟩:=cs q (by omega);have qlt:(q:Int)<2:=by omega
      clear hR;rw [es,ei];clear cs;go_wp2;exact ⟨rfl,_,rfl,⟨_,_,y,rfl,ns,hy1,hy2,by simpa using hy⟩,⟨hI.mono (by omega),hc⟩,fun _ _ h=>h⟩
     ·refine Owes.mk _ rfl rfl (fun _ _ h=>by cases h) fun u m w' hm ⟨hI,hc⟩ hR=>⟨⟨(frm 153 [(103,u 5)]).toArray,[]⟩,rfl,fun d hd=>by cases hd;exact frm_lt (by decide),?_⟩;dsimp only [frm,List.foldl,List.replicate,List.set];have hm:m<9:=hm;obtain ⟨bs,is,xs,es,ns,ls,hs,cs⟩:=hR 5 (by decide);clear hR;rw [es];go_wp2;exact ⟨rfl,_,rfl,⟨xs,by omega,by omega,rfl⟩,⟨hI.mono (by omega),hc⟩,fun _ _ h=>h⟩
    case hend =>
     intro u w' ⟨hI,hc⟩ hR;simp only [setAll,List.set_cons_zero,List.set_cons_succ];have e1:u 1=_:=hR 1 (by decide);obtain ⟨q6,lq6,hq6,e6⟩:=hR 6 (by decide);rw [e1,e6];have HQw:=Lib.hid (QAt.chg HQ5.out hc hrbq);have hi:0<x.data.length:=by rw [<- HNN.out];exact hpos
     obtain ⟨cy,cw⟩:∃ cy,w'.cell? ⟨g,0,none⟩=some cy:=⟨_,by simpa [IntC] using OwnR.cell IntC_len HQw.out.d hi (j:=0) (by simp [IntC])⟩;have fw:w'.frozen? ⟨g,0,none⟩=false:=OwnR.frozen HQw.out.d _;have HRw:=Lib.hid hI;have HCw:=Lib.hid (HC5.out.step hc (fun k hk=>by simp at hk;omega));have HQn:=Lib.hid (QAt.storeD HQw.out hi q6);clear hR hI hc hst e1 e6 HQ5 HR5 HC5 c5 hi;go_wp2_with fail
     exact hK.out ⟨_,_,_,HQn.out,(by show (x.data.set 0 q6).length<=20;have:=HD4.out;simp;omega),Nat.le_trans HL4.out (by decide),fun h=>(HN.out h).elim,(HRw.out.chg (store_chg _) (by simp;omega) (fun b hb hb'=>by have:=FLB.out b hb;simp at hb';omega)).mono (by omega),HCw.out.step (store_chg _) (fun k hk=>by simp at hk;omega)⟩
end Go.Proofs.Ytmcjklicepaiaaa
