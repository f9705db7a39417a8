/-
 Texts of this claim laid together: DReqB.
-/
import Derived.Test.YtmcjklicepaiaaaProg
import Derived.Test.YtmcjklicepaiaaaPk08
import Derived.Test.YtmcjklicepaiaaaPk01
import Derived.Test.YtmcjklicepaiaaaPk06
import Derived.Test.YtmcjklicepaiaaaPk26
import Derived.Test.YtmcjklicepaiaaaPk02
import Derived.Test.YtmcjklicepaiaaaPk04
import Derived.Test.YtmcjklicepaiaaaPk11
import Derived.Test.YtmcjklicepaiaaaPk03
import Derived.Test.YtmcjklicepaiaaaPk16
import Derived.Test.YtmcjklicepaiaaaPk07
import Derived.Test.YtmcjklicepaiaaaPk27
import Derived.Deep.DeepCutAuto
import Derived.Deep.CutBlock
import Derived.WalkSmall
set_option linter.unusedVariables false
set_option linter.unusedSimpArgs false
namespace Go.Proofs.Ytmcjklicepaiaaa
open Go.RowKit Go.ChangeShapes Go.WideShapes
set_option maxRecDepth 100000 in
set_option maxHeartbeats 3200000 in
theorem l20Req_words (rb bq : Nat) (fq : List Nat) (N n : Int) (W0 ww : World) (x : Req) (vd vl : Value) (b : Bool) (hN : N <= 990000000) (hrbq : rb < bq) (FLB : Hid (∀ k, k ∈ fq -> k < bq)) (HQ1 : Hid (QAt bq ww x vd vl)) (HX1 : Hid (x.data = [])) (HX2 : Hid (x.lanes = [])) (HG : Hid (Good1 x)) (HB57 : Hid (b = writesB x)) (HR1 : Hid (RdAt ww rb fq (N + 500))) (HC1 : Hid (Low rb bq W0 ww)) (K : Act -> World -> Prop) (Q : Exit -> Act -> World -> Prop) {s1 s2 s3 s4 s6 s7 s8 s9 s10 s11 s12 s13 s14 s15 s16 s17 s18 s19 s20 s21 s22 s23 s24 s25 s26 s27 s28 s29 s30 s31 s32 s33 s34 s35 s36 s37 s38 s39 s40 s41 s42 s43 s44 s45 s46 s47 s48 s49 s50 s51 s52 s53 s54 s55 s56 s58 s59 s60 s61 s62 s63 s64 s65 s66 s67 s68 s69 s70 s71 s72 s73 s74 s75 s76 s77 s78 s79 s80 s81 s82 s83 s84 s85 s86 s87 s88 s89 s90 s91 s92 s93 s94 s95 s96 s97 s98 s99 s100 s101 s102 s103 s104 s105 s106 s107 s108 s109 s110 s111 s112 s113 s114 s115 s116 s117 s118 s119 s120 s121 s122 s123 s124 s125 s126 s127 s128 s129 s130 s131 s132 s133 s134 s135 s136 s137 s138 s139 s140 s141 s142 s143 s144 s145 s146 s147 s148 s149 s150 s151 s152 : Value} (hK : Hid (∀ {wc : World} {t6 t58 t59 t60 t61 t62 t63 t64 t65 t66 t67 t68 t69 t70 t71 t72 t73 t74 t75 t76 t77 t78 t79 t80 t81 t82 t83 t84 t85 t86 t87 t88 : Value}, (∃ (x : Req) (vd vl : Value), QAt bq wc x vd vl ∧ x.data.length <= 4 ∧ x.lanes.length <= 4 ∧ reqOk x = true ∧ RdAt wc rb fq (N + 700) ∧ Low rb bq W0 wc) -> K ⟨#[.pointer (some ⟨rb, 0, none⟩), s1, s2, s3, s4, .pointer (some ⟨bq, 0, none⟩), t6, s7, s8, s9, s10, s11, s12, s13, s14, s15, s16, s17, s18, s19, s20, s21, s22, s23, s24, s25, s26, s27, s28, s29, s30, s31, s32, s33, s34, s35, s36, s37, s38, s39, s40, s41, s42, s43, s44, s45, s46, s47, s48, s49, s50, s51, s52, s53, s54, s55, s56, .bool b, t58, t59, t60, t61, t62, t63, t64, t65, t66, t67, t68, t69, t70, t71, t72, t73, t74, t75, t76, t77, t78, t79, t80, t81, t82, t83, t84, t85, t86, t87, t88, s89, s90, s91, s92, s93, s94, s95, s96, s97, s98, s99, s100, s101, s102, s103, s104, s105, s106, s107, s108, s109, s110, s111, s112, s113, s114, s115, s116, s117, s118, s119, s120, s121, s122, s123, s124, s125, s126, s127, s128, s129, s130, s131, s132, s133, s134, s135, s136, s137, s138, s139, s140, s141, s142, s143, s144, s145, s146, s147, s148, s149, s150, s151, s152], []⟩ wc)) :
 Code.wp Try.prog (ifAt 57 Try.f45) (Exit.then K Q) ⟨#[.pointer (some ⟨rb, 0, none⟩), s1, s2, s3, s4, .pointer (some ⟨bq, 0, none⟩), s6, s7, s8, s9, s10, s11, s12, s13, s14, s15, s16, s17, s18, s19, s20, s21, s22, s23, s24, s25, s26, s27, s28, s29, s30, s31, s32, s33, s34, s35, s36, s37, s38, s39, s40, s41, s42, s43, s44, s45, s46, s47, s48, s49, s50, s51, s52, s53, s54, s55, s56, .bool b, s58, s59, s60, s61, s62, s63, s64, s65, s66, s67, s68, s69, s70, s71, s72, s73, s74, s75, s76, s77, s78, s79, s80, s81, s82, s83, s84, s85, s86, s87, s88, s89, s90, s91, s92, s93, s94, s95, s96, s97, s98, s99, s100, s101, s102, s103, s104, s105, s106, s107, s108, s109, s110, s111, s112, s113, s114, s115, s116, s117, s118, s119, s120, s121, s122, s123, s124, s125, s126, s127, s128, s129, s130, s131, s132, s133, s134, s135, s136, s137, s138, s139, s140, s141, s142, s143, s144, s145, s146, s147, s148, s149, s150, s151, s152], []⟩ ww := by
 conv => arg 2; whnf
 let QQ := @bodyPost Try.prog Try.f45
 obtain ⟨i0, ki, kz0, kz1, kz2⟩ := info_parts infoInt
 cases b
 · go_wp2_with fail
   exact hK.out ⟨x, vd, vl, HQ1.out, by rw [HX1.out]; simp, by rw [HX2.out]; simp, good_ok HG.out (by rw [HX1.out]; unfold manyOf; rw [<- HB57.out]; rfl) (by rw [HX2.out]; unfold manyOf; rw [<- HB57.out]; rfl) (by rw [HX1.out]; rfl) (by rw [HX2.out]; rfl), HR1.out.mono (by omega), HC1.out⟩
 · obtain ⟨mm, hmm⟩ := Int.eq_ofNat_of_zero_le (show 0 <= x.many by rcases HG.out.1.m with e | e | e <;> omega)
   have hmm4 : mm <= 4 := by rcases HG.out.1.m with e | e | e <;> omega
   have HMM := Lib.hid hmm
   clear hmm
   go_wp2_with fail
   go_loopw [6] (fun i wr => ∃ (k : Nat) (y : Req) (vd vl : Value), k <= mm ∧ i = .int .i64 k ∧ Hid (y.many = (mm : Int)) ∧ Hid (Good1 y ∧ writesB y = true) ∧ QAt bq wr y vd vl ∧ Hid (y.data.length = k) ∧ Hid (y.lanes.length = k) ∧ Hid (allIn y.data 0 65535 = true ∧ allIn y.lanes 0 3 = true) ∧ RdAt wr rb fq (N + 510 + 40 * k) ∧ Low rb bq W0 wr) (fun i _ => mm - (intOf i).toNat)
   case atStart => exact ⟨0, x, vd, vl, by omega, rfl, HMM, Lib.hid ⟨HG.out, HB57.out.symm⟩, HQ1.out, Lib.hid (by rw [HX1.out]; rfl), Lib.hid (by rw [HX2.out]; rfl), Lib.hid (by rw [HX1.out, HX2.out]; exact ⟨rfl, rfl⟩), HR1.out.mono (by omega), HC1.out⟩
   case round =>
    obtain ⟨k, y, vd, vl, hk, rfl, hym, hgy, hq, hd, hl, hin, hrd, hch⟩ := hrel
    clear HQ1 HR1 HC1 HX1 HX2
    have HQ := Lib.hid hq
    have HGy := hgy
    have HR := Lib.hid hrd
    have HC := Lib.hid hch
    have c3 := hq.c3
    rw [hym.out] at c3
    have c5 := hq.c5
    clear hq hrd hch
    by_cases hlt2 : k < mm
    · have nbq : bq ∉ [rb] := by simp; omega
      have hkl : y.data.length <= 4 := by rw [hd.out]; omega
      have hkl2 : y.lanes.length <= 4 := by rw [hl.out]; omega
      go_upto_region 11 with fail
      go_cut [] (fun wx => ∃ (z : Int) (vd2 : Value), QAt bq wx { y with data := y.data ++ [z] } vd2 vl ∧ allIn [z] 0 65535 = true ∧ RdAt wx rb fq (N + 510 + 40 * k + 20) ∧ Low rb bq W0 wx)
      case first =>
       have hst : ∀ F, F ∈ [FEq (.pointer (some ⟨bq, 5, none⟩)), FEq (vd), FEq (.pointer (some ⟨rb, 0, none⟩)), FInt (0) (255), FInt (0) (65535), FEq (.pointer (some ⟨rb, 0, none⟩)), FInt (0) (9), FSl [rb] 4 (0) (65535), FEq (.pointer (some ⟨rb, 0, none⟩)), FInt (0) (3), FPtr [rb] (0) (65535), FInt (0) (65535), FSl [rb] 1 (0) (65535)] -> Stable [rb] F := by
        simp only [List.forall_mem_cons]
        exact ⟨stEq _ _, stEq _ _, stEq _ _, stInt _ _ _, stInt _ _ _, stEq _ _, stInt _ _ _, stSl _ _ _ _, stEq _ _, stInt _ _ _, stPtr _ _ _, stInt _ _ _, stSl _ _ _ _, fun _ h => by simp at h⟩
       refine wp_region_tail (by kernel_rfl) (fun i => ([[], [0], [], [2], [2, 3], [], [2, 3, 5], [2, 3, 4, 5, 6], [], [2, 3, 5, 6, 8], [2, 3, 4, 5, 6, 7, 8, 9], [2, 3, 4, 5, 6, 7, 8, 9, 10], [2, 3, 4, 5, 6, 7, 8, 9, 10, 11], [0, 1, 2, 3, 4, 5, 6, 7, 8, 9, 10, 11, 12], [0, 1, 2, 3, 4, 5, 6, 7, 8, 9, 10, 11, 12, 13], [0, 1, 2, 3, 4, 5, 6, 7, 8, 9, 10, 11, 12, 13, 14]] : List (List Nat)).getD i []) (facts [FEq (.pointer (some ⟨bq, 5, none⟩)), FEq (vd), FEq (.pointer (some ⟨rb, 0, none⟩)), FInt (0) (255), FInt (0) (65535), FEq (.pointer (some ⟨rb, 0, none⟩)), FInt (0) (9), FSl [rb] 4 (0) (65535), FEq (.pointer (some ⟨rb, 0, none⟩)), FInt (0) (3), FPtr [rb] (0) (65535), FInt (0) (65535), FSl [rb] 1 (0) (65535)]) (fun m w' => RdAt w' rb fq ((N + 510 + 40 * (k : Int)) + 1 * m) ∧ Chg [rb] wr w') 153 16 13 [some 64, some 65, some 66, some 67, some 68, some 69, some 70, some 71, some 72, some 73, some 74, some 75, some 76] _ rfl rfl (by decide) rfl rfl (by kernel_rfl) (by kernel_rfl) [] (by kernel_rfl) (fun g b hm v w h => by simp at hm) ?h0 (all_lt (n := 13) ?hop) ?hend
       case h0 => exact ⟨(HR.out.below (Below.refl _ _).drew).mono (by omega), (Chg.refl _ _).drewN 1⟩
       case hop =>
        refine ⟨⟨⟨⟨⟨⟨⟨⟨⟨⟨⟨⟨⟨trivial, ?_⟩, ?_⟩, ?_⟩, ?_⟩, ?_⟩, ?_⟩, ?_⟩, ?_⟩, ?_⟩, ?_⟩, ?_⟩, ?_⟩, ?_⟩
        · refine Owes.mk _ rfl rfl (fun _ _ h => by cases h) fun u m w' hm ⟨hI, hc⟩ hR => ⟨⟨(frm 153 [(5, .pointer (some ⟨bq, 0, none⟩))]).toArray, []⟩, rfl, fun d hd => by cases hd; exact frm_lt (by decide), ?_⟩
          dsimp only [frm, List.foldl, List.replicate, List.set]
          have hm : m < 16 := hm
          clear hR
          have k0 := keep_cell_chg hc c5 nbq
          clear hst
          go_wp2
          exact ⟨rfl, _, rfl, rfl, ⟨hI.mono (by omega), hc⟩, fun _ _ h => h⟩
        · refine Owes.mk _ rfl rfl (fun _ _ h => by cases h) fun u m w' hm ⟨hI, hc⟩ hR => ⟨⟨(frm 153 [(64, u 0)]).toArray, []⟩, rfl, fun d hd => by cases hd; exact frm_lt (by decide), ?_⟩
          dsimp only [frm, List.foldl, List.replicate, List.set]
          have hm : m < 16 := hm
          have ev0 : u 0 = _ := hR 0 (by decide)
          clear hR
          rw [ev0]
          have k0 := keep_cell_chg hc c5 nbq
          clear hst
          go_wp2
          exact ⟨rfl, _, rfl, rfl, ⟨hI.mono (by omega), hc⟩, fun _ _ h => h⟩
        · refine Owes.mk _ rfl rfl (fun _ _ h => by cases h) fun u m w' hm ⟨hI, hc⟩ hR => ⟨⟨(frm 153 [(0, .pointer (some ⟨rb, 0, none⟩))]).toArray, []⟩, rfl, fun d hd => by cases hd; exact frm_lt (by decide), ?_⟩
          dsimp only [frm, List.foldl, List.replicate, List.set]
          have hm : m < 16 := hm
          clear hR
          go_wp2
          exact ⟨rfl, _, rfl, rfl, ⟨hI.mono (by omega), hc⟩, fun _ _ h => h⟩
        · refine Owes.mk _ rfl rfl (fun _ _ h => by cases h) fun u m w' hm ⟨hI, hc⟩ hR => ⟨⟨(frm 153 [(66, u 2)]).toArray, []⟩, rfl, fun d hd => by cases hd; exact frm_lt (by decide), ?_⟩
          dsimp only [frm, List.foldl, List.replicate, List.set]
          have hm : m < 16 := hm
          have ea0 : u 2 = _ := hR 2 (by decide)
          clear hR
          rw [ea0]
          go_wp2_with fail
          refine (pick_any rb fq ((N + 510 + 40 * (k : Int)) + 1 * m) 256 (by omega) (by omega) (by omega) _ hI).mono ?_
          rintro e w2 ⟨x, rfl, lo, hi, g1, g2⟩
          have hs := facts_stable hst g2
          have G1 := Lib.hid (g1.mono (show (N + 510 + 40 * (k : Int)) + 1 * (m : Int) + 1 <= (N + 510 + 40 * (k : Int)) + 1 * ((m + 1 : Nat) : Int) by omega))
          have G2 := Lib.hid (hc.trans' g2)
          have HS := Lib.hid hs
          clear g1 g2 hs hc hI hst
          go_wp2
          exact ⟨rfl, _, rfl, ⟨x, by omega, by omega, rfl⟩, ⟨G1.out, G2.out⟩, HS.out⟩
        · refine Owes.mk _ rfl rfl (fun _ _ h => by cases h) fun u m w' hm ⟨hI, hc⟩ hR => ⟨⟨(frm 153 [(67, u 3)]).toArray, []⟩, rfl, fun d hd => by cases hd; exact frm_lt (by decide), ?_⟩
          dsimp only [frm, List.foldl, List.replicate, List.set]
          have hm : m < 16 := hm
          obtain ⟨xa, la, ha, ea⟩ := hR 3 (by decide)
          clear hR
          rw [ea]
          go_wp2
          exact ⟨rfl, _, rfl, ⟨_, by omega, by omega, rfl⟩, ⟨hI.mono (by omega), hc⟩, fun _ _ h => h⟩
        · refine Owes.mk _ rfl rfl (fun _ _ h => by cases h) fun u m w' hm ⟨hI, hc⟩ hR => ⟨⟨(frm 153 [(0, .pointer (some ⟨rb, 0, none⟩))]).toArray, []⟩, rfl, fun d hd => by cases hd; exact frm_lt (by decide), ?_⟩
          dsimp only [frm, List.foldl, List.replicate, List.set]
          have hm : m < 16 := hm
          clear hR
          go_wp2
          exact ⟨rfl, _, rfl, rfl, ⟨hI.mono (by omega), hc⟩, fun _ _ h => h⟩
        · refine Owes.mk _ rfl rfl (fun _ _ h => by cases h) fun u m w' hm ⟨hI, hc⟩ hR => ⟨⟨(frm 153 [(69, u 5)]).toArray, []⟩, rfl, fun d hd => by cases hd; exact frm_lt (by decide), ?_⟩
          dsimp only [frm, List.foldl, List.replicate, List.set]
          have hm : m < 16 := hm
          have ea0 : u 5 = _ := hR 5 (by decide)
          clear hR
          rw [ea0]
          go_wp2_with fail
          refine (pick_any rb fq ((N + 510 + 40 * (k : Int)) + 1 * m) 10 (by omega) (by omega) (by omega) _ hI).mono ?_
          rintro e w2 ⟨x, rfl, lo, hi, g1, g2⟩
          have hs := facts_stable hst g2
          have G1 := Lib.hid (g1.mono (show (N + 510 + 40 * (k : Int)) + 1 * (m : Int) + 1 <= (N + 510 + 40 * (k : Int)) + 1 * ((m + 1 : Nat) : Int) by omega))
          have G2 := Lib.hid (hc.trans' g2)
          have HS := Lib.hid hs
          clear g1 g2 hs hc hI hst
          go_wp2
          exact ⟨rfl, _, rfl, ⟨x, by omega, by omega, rfl⟩, ⟨G1.out, G2.out⟩, HS.out⟩
        · refine Owes.mk _ rfl rfl (fun _ _ h => by cases h) fun u m w' hm ⟨hI, hc⟩ hR => ⟨⟨(frm 153 [(68, u 4), (70, u 6)]).toArray, []⟩, rfl, fun d hd => by cases hd; exact frm_lt (by decide), ?_⟩
          dsimp only [frm, List.foldl, List.replicate, List.set]
          have hm : m < 16 := hm
          obtain ⟨xp0, lp0, hp0, ep0⟩ := hR 4 (by decide)
          obtain ⟨xp1, lp1, hp1, ep1⟩ := hR 6 (by decide)
          clear hR
          rw [ep0, ep1]
          have hlt := hI.lt
          have nb : w'.heap.size ∉ [rb] := by simp; omega
          have HL := Lib.hid hlt
          have HI := Lib.hid hI
          have HC := Lib.hid hc
          clear hI hc hlt
          go_wp2
          have ba : ∀ A : Array Value, Below w'.heap.size w' (w'.alloc (.cells A 3)) := fun A => below_alloc _ _
          refine ⟨rfl, _, rfl, ⟨_, rfl, nb, fun i hi => ?_⟩, ⟨(HI.out.below (ba _)).mono (by omega), HC.out.trans' ((ba _).chg _)⟩, facts_stable hst ((ba _).chg _)⟩
          have hx : i = 0 ∨ i = 1 ∨ i = 2 ∨ i = 3 := by omega
          rcases hx with rfl | rfl | rfl | rfl
          · exact ⟨xp0, by omega, by omega, alloc1_new _ _ _ 0 rfl⟩
          · exact ⟨xp1, by omega, by omega, alloc1_new _ _ _ 1 rfl⟩
          · exact ⟨(65535), by omega, by omega, alloc1_new _ _ _ 2 rfl⟩
          · exact ⟨(0), by omega, by omega, alloc1_new _ _ _ 3 rfl⟩
        · refine Owes.mk _ rfl rfl (fun _ _ h => by cases h) fun u m w' hm ⟨hI, hc⟩ hR => ⟨⟨(frm 153 [(0, .pointer (some ⟨rb, 0, none⟩))]).toArray, []⟩, rfl, fun d hd => by cases hd; exact frm_lt (by decide), ?_⟩
          dsimp only [frm, List.foldl, List.replicate, List.set]
          have hm : m < 16 := hm
          clear hR
          go_wp2
          exact ⟨rfl, _, rfl, rfl, ⟨hI.mono (by omega), hc⟩, fun _ _ h => h⟩
        · refine Owes.mk _ rfl rfl (fun _ _ h => by cases h) fun u m w' hm ⟨hI, hc⟩ hR => ⟨⟨(frm 153 [(72, u 8)]).toArray, []⟩, rfl, fun d hd => by cases hd; exact frm_lt (by decide), ?_⟩
          dsimp only [frm, List.foldl, List.replicate, List.set]
          have hm : m < 16 := hm
          have ea0 : u 8 = _ := hR 8 (by decide)
          clear hR
          rw [ea0]
          go_wp2_with fail
          refine (pick_any rb fq ((N + 510 + 40 * (k : Int)) + 1 * m) 4 (by omega) (by omega) (by omega) _ hI).mono ?_
          rintro e w2 ⟨x, rfl, lo, hi, g1, g2⟩
          have hs := facts_stable hst g2
          have G1 := Lib.hid (g1.mono (show (N + 510 + 40 * (k : Int)) + 1 * (m : Int) + 1 <= (N + 510 + 40 * (k : Int)) + 1 * ((m + 1 : Nat) : Int) by omega))
          have G2 := Lib.hid (hc.trans' g2)
          have HS := Lib.hid hs
          clear g1 g2 hs hc hI hst
          go_wp2
          exact ⟨rfl, _, rfl, ⟨x, by omega, by omega, rfl⟩, ⟨G1.out, G2.out⟩, HS.out⟩
        · refine Owes.mk _ rfl rfl (fun _ _ h => by cases h) fun u m w' hm ⟨hI, hc⟩ hR => ⟨⟨(frm 153 [(71, u 7), (73, u 9)]).toArray, []⟩, rfl, fun d hd => by cases hd; exact frm_lt (by decide), ?_⟩
          dsimp only [frm, List.foldl, List.replicate, List.set]
          have hm : m < 16 := hm
          obtain ⟨bs, es, ns, cs⟩ := hR 7 (by decide)
          obtain ⟨xi, li, hi, ei⟩ := hR 9 (by decide)
          obtain ⟨q, rfl⟩ := Int.eq_ofNat_of_zero_le li
          obtain ⟨y, hy1, hy2, hy⟩ := cs q (by omega)
          have qlt : (q : Int) < 4 := by omega
          clear hR
          rw [es, ei]
          clear cs
          go_wp2
          exact ⟨rfl, _, rfl, ⟨_, _, y, rfl, ns, hy1, hy2, by simpa using hy⟩, ⟨hI.mono (by omega), hc⟩, fun _ _ h => h⟩
        · refine Owes.mk _ rfl rfl (fun _ _ h => by cases h) fun u m w' hm ⟨hI, hc⟩ hR => ⟨⟨(frm 153 [(74, u 10)]).toArray, []⟩, rfl, fun d hd => by cases hd; exact frm_lt (by decide), ?_⟩
          dsimp only [frm, List.foldl, List.replicate, List.set]
          have hm : m < 16 := hm
          obtain ⟨bs, is, xs, es, ns, ls, hs, cs⟩ := hR 10 (by decide)
          clear hR
          rw [es]
          go_wp2
          exact ⟨rfl, _, rfl, ⟨xs, by omega, by omega, rfl⟩, ⟨hI.mono (by omega), hc⟩, fun _ _ h => h⟩
        · refine Owes.mk _ rfl rfl (fun _ _ h => by cases h) fun u m w' hm ⟨hI, hc⟩ hR => ⟨⟨(frm 153 [(75, u 11)]).toArray, []⟩, rfl, fun d hd => by cases hd; exact frm_lt (by decide), ?_⟩
          dsimp only [frm, List.foldl, List.replicate, List.set]
          have hm : m < 16 := hm
          obtain ⟨xp0, lp0, hp0, ep0⟩ := hR 11 (by decide)
          clear hR
          rw [ep0]
          have hlt := hI.lt
          have nb : w'.heap.size ∉ [rb] := by simp; omega
          have HL := Lib.hid hlt
          have HI := Lib.hid hI
          have HC := Lib.hid hc
          clear hI hc hlt
          go_wp2
          have ba : ∀ A : Array Value, Below w'.heap.size w' (w'.alloc (.cells A 3)) := fun A => below_alloc _ _
          refine ⟨rfl, _, rfl, ⟨_, rfl, nb, fun i hi => ?_⟩, ⟨(HI.out.below (ba _)).mono (by omega), HC.out.trans' ((ba _).chg _)⟩, facts_stable hst ((ba _).chg _)⟩
          have hx : i = 0 := by omega
          rcases hx with rfl
          · exact ⟨xp0, by omega, by omega, alloc1_new _ _ _ 0 rfl⟩
       case hend =>
        intro u w' ⟨hI, hc⟩ hR
        simp only [setAll, List.set_cons_zero, List.set_cons_succ]
        have e1 : u 1 = _ := hR 1 (by decide)
        obtain ⟨b12, e12, n12, c12⟩ := hR 12 (by decide)
        obtain ⟨z, zl, zh, hz⟩ := c12 0 (by decide)
        rw [e1, e12]
        have HCELL := Lib.hid hz
        have HZB := Lib.hid (allIn_one zl zh)
        have HQw := Lib.hid (QAt.chg HQ.out hc hrbq)
        have HRw := Lib.hid hI
        have HCw := Lib.hid (HC.out.step hc (fun k hk => by simp at hk; omega))
        clear hR hI hc hst e1 e12 c12 hz HQ HR HC c3 c5
        refine wpList_appendB (K := 1) (c := IntC) (l := y.data) (news := [z]) (base := bq + 1) rfl _ _ 24 3 i0 (.int .i64 0) 8 IntC_len rfl Try.underlying24 ki kz0 kz1 kz2 rfl (by decide) (by decide) rfl rfl HQw.out.d rfl (by decide) (fun j u hj => by
         have hj0 : j = 0 := by have := (List.getElem?_eq_some_iff.1 hj).1; simpa [IntC] using this
         subst hj0
         simp [IntC] at hj
         subst hj
         exact HCELL.out) (by simp [IntC, Value.oneCell']) (by omega) (by omega) (by have := HQw.out.lt; omega) ?_
        intro v' w2 hown hg hb
        obtain ⟨va, vn, vc, rfl, _⟩ := OwnR.slice hown
        have hne : some bq ≠ (vd).ownBlock := fun e => by have := (own_lt HQw.out.d e.symm).1; omega
        have c5 := hg.cell HQw.out.c5 hne
        have f5 : w2.frozen? ⟨bq, 5, none⟩ = false := (World.frozen?_of_block (hg.block bq HQw.out.lt hne)).trans (HQw.out.fz 5)
        have HQn := Lib.hid (QAt.pushD HQw.out hg hown hb)
        have hbw := grown_below HQw.out.d hg (by have := HQw.out.lt; omega)
        have hsz := hg.size
        have HRn := Lib.hid ((HRw.out.low hbw (by omega) (fun b hb => by have := FLB.out b hb; omega)).chg (store_chg _) (by simp; omega) (fun b hb hb' => by have := FLB.out b hb; simp at hb'; omega) : RdAt (w2.setCell ⟨bq, 5, none⟩ (.slice va vn vc)) rb fq _)
        have HCn := Lib.hid ((HCw.out.below (hbw.mono (by omega))).step (store_chg _) (fun k hk => by simp at hk; omega) : Low rb bq W0 (w2.setCell ⟨bq, 5, none⟩ (.slice va vn vc)))
        clear hown hg hb hne hbw
        go_wp2_with fail
        go_meet
        case rel => exact ⟨z, _, HQn.out, HZB.out, HRn.out.mono (by omega), HCn.out⟩
      case rest =>
       obtain ⟨z, vd2, hq, hz, hrd, hch⟩ := hcut
       have HZB := Lib.hid hz
       have HQ2 := Lib.hid hq
       have HR2 := Lib.hid hrd
       have HC2 := Lib.hid hch
       have c6 := hq.c6
       clear hq hz hrd hch HQ HR HC c3 c5
       go_wp2_with fail
       have hst : ∀ F, F ∈ [FEq (.pointer (some ⟨bq, 6, none⟩)), FEq (vl), FSl [rb] 5 (0) (3), FEq (.pointer (some ⟨rb, 0, none⟩)), FInt (0) (4), FPtr [rb] (0) (3), FInt (0) (3), FSl [rb] 1 (0) (3)] -> Stable [rb] F := by
        simp only [List.forall_mem_cons]
        exact ⟨stEq _ _, stEq _ _, stSl _ _ _ _, stEq _ _, stInt _ _ _, stPtr _ _ _, stInt _ _ _, stSl _ _ _ _, fun _ h => by simp at h⟩
       refine wp_region_tail (by kernel_rfl) (fun i => ([[], [0], [], [], [3], [2, 3, 4], [2, 3, 4, 5], [2, 3, 4, 5, 6], [0, 1, 2, 3, 4, 5, 6, 7], [0, 1, 2, 3, 4, 5, 6, 7, 8], [0, 1, 2, 3, 4, 5, 6, 7, 8, 9]] : List (List Nat)).getD i []) (facts [FEq (.pointer (some ⟨bq, 6, none⟩)), FEq (vl), FSl [rb] 5 (0) (3), FEq (.pointer (some ⟨rb, 0, none⟩)), FInt (0) (4), FPtr [rb] (0) (3), FInt (0) (3), FSl [rb] 1 (0) (3)]) (fun m w' => RdAt w' rb fq ((N + 510 + 40 * (k : Int) + 20) + 1 * m) ∧ Chg [rb] wc w') 153 11 8 [some 79, some 80, some 81, some 82, some 83, some 84, some 85, some 86] _ rfl rfl (by decide) rfl rfl (by kernel_rfl) (by kernel_rfl) [] (by kernel_rfl) (fun g b hm v w h => by simp at hm) ?h0 (all_lt (n := 8) ?hop) ?hend
       case h0 => exact ⟨(HR2.out.below (Below.refl _ _).drew).mono (by omega), (Chg.refl _ _).drewN 1⟩
       case hop =>
        refine ⟨⟨⟨⟨⟨⟨⟨⟨trivial, ?_⟩, ?_⟩, ?_⟩, ?_⟩, ?_⟩, ?_⟩, ?_⟩, ?_⟩
        · refine Owes.mk _ rfl rfl (fun _ _ h => by cases h) fun u m w' hm ⟨hI, hc⟩ hR => ⟨⟨(frm 153 [(5, .pointer (some ⟨bq, 0, none⟩))]).toArray, []⟩, rfl, fun d hd => by cases hd; exact frm_lt (by decide), ?_⟩
          dsimp only [frm, List.foldl, List.replicate, List.set]
          have hm : m < 11 := hm
          clear hR
          have k0 := keep_cell_chg hc c6 nbq
          clear hst
          go_wp2
          exact ⟨rfl, _, rfl, rfl, ⟨hI.mono (by omega), hc⟩, fun _ _ h => h⟩
        · refine Owes.mk _ rfl rfl (fun _ _ h => by cases h) fun u m w' hm ⟨hI, hc⟩ hR => ⟨⟨(frm 153 [(79, u 0)]).toArray, []⟩, rfl, fun d hd => by cases hd; exact frm_lt (by decide), ?_⟩
          dsimp only [frm, List.foldl, List.replicate, List.set]
          have hm : m < 11 := hm
          have ev0 : u 0 = _ := hR 0 (by decide)
          clear hR
          rw [ev0]
          have k0 := keep_cell_chg hc c6 nbq
          clear hst
          go_wp2
          exact ⟨rfl, _, rfl, rfl, ⟨hI.mono (by omega), hc⟩, fun _ _ h => h⟩
        · refine Owes.mk _ rfl rfl (fun _ _ h => by cases h) fun u m w' hm ⟨hI, hc⟩ hR => ⟨⟨(frm 153 []).toArray, []⟩, rfl, fun d hd => by cases hd; exact frm_lt (by decide), ?_⟩
          dsimp only [frm, List.foldl, List.replicate, List.set]
          have hm : m < 11 := hm
          clear hR
          have hlt := hI.lt
          have nb : w'.heap.size ∉ [rb] := by simp; omega
          have HL := Lib.hid hlt
          have HI := Lib.hid hI
          have HC := Lib.hid hc
          clear hI hc hlt
          go_wp2
          have ba : ∀ A : Array Value, Below w'.heap.size w' (w'.alloc (.cells A 3)) := fun A => below_alloc _ _
          refine ⟨rfl, _, rfl, ⟨_, rfl, nb, fun i hi => ?_⟩, ⟨(HI.out.below (ba _)).mono (by omega), HC.out.trans' ((ba _).chg _)⟩, facts_stable hst ((ba _).chg _)⟩
          have hx : i = 0 ∨ i = 1 ∨ i = 2 ∨ i = 3 ∨ i = 4 := by omega
          rcases hx with rfl | rfl | rfl | rfl | rfl
          · exact ⟨(3), by omega, by omega, alloc1_new _ _ _ 0 rfl⟩
          · exact ⟨(3), by omega, by omega, alloc1_new _ _ _ 1 rfl⟩
          · exact ⟨(1), by omega, by omega, alloc1_new _ _ _ 2 rfl⟩
          · exact ⟨(2), by omega, by omega, alloc1_new _ _ _ 3 rfl⟩
          · exact ⟨(0), by omega, by omega, alloc1_new _ _ _ 4 rfl⟩
        · refine Owes.mk _ rfl rfl (fun _ _ h => by cases h) fun u m w' hm ⟨hI, hc⟩ hR => ⟨⟨(frm 153 [(0, .pointer (some ⟨rb, 0, none⟩))]).toArray, []⟩, rfl, fun d hd => by cases hd; exact frm_lt (by decide), ?_⟩
          dsimp only [frm, List.foldl, List.replicate, List.set]
          have hm : m < 11 := hm
          clear hR
          go_wp2
          exact ⟨rfl, _, rfl, rfl, ⟨hI.mono (by omega), hc⟩, fun _ _ h => h⟩
        · refine Owes.mk _ rfl rfl (fun _ _ h => by cases h) fun u m w' hm ⟨hI, hc⟩ hR => ⟨⟨(frm 153 [(82, u 3)]).toArray, []⟩, rfl, fun d hd => by cases hd; exact frm_lt (by decide), ?_⟩
          dsimp only [frm, List.foldl, List.replicate, List.set]
          have hm : m < 11 := hm
          have ea0 : u 3 = _ := hR 3 (by decide)
          clear hR
          rw [ea0]
          go_wp2_with fail
          refine (pick_any rb fq ((N + 510 + 40 * (k : Int) + 20) + 1 * m) 5 (by omega) (by omega) (by omega) _ hI).mono ?_
          rintro e w2 ⟨x, rfl, lo, hi, g1, g2⟩
          have hs := facts_stable hst g2
          have G1 := Lib.hid (g1.mono (show (N + 510 + 40 * (k : Int) + 20) + 1 * (m : Int) + 1 <= (N + 510 + 40 * (k : Int) + 20) + 1 * ((m + 1 : Nat) : Int) by omega))
          have G2 := Lib.hid (hc.trans' g2)
          have HS := Lib.hid hs
          clear g1 g2 hs hc hI hst
          go_wp2
          exact ⟨rfl, _, rfl, ⟨x, by omega, by omega, rfl⟩, ⟨G1.out, G2.out⟩, HS.out⟩
        · refine Owes.mk _ rfl rfl (fun _ _ h => by cases h) fun u m w' hm ⟨hI, hc⟩ hR => ⟨⟨(frm 153 [(81, u 2), (83, u 4)]).toArray, []⟩, rfl, fun d hd => by cases hd; exact frm_lt (by decide), ?_⟩
          dsimp only [frm, List.foldl, List.replicate, List.set]
          have hm : m < 11 := hm
          obtain ⟨bs, es, ns, cs⟩ := hR 2 (by decide)
          obtain ⟨xi, li, hi, ei⟩ := hR 4 (by decide)
          obtain ⟨q, rfl⟩ := Int.eq_ofNat_of_zero_le li
          obtain ⟨y, hy1, hy2, hy⟩ := cs q (by omega)
          have qlt : (q : Int) < 5 := by omega
          clear hR
          rw [es, ei]
          clear cs
          go_wp2
          exact ⟨rfl, _, rfl, ⟨_, _, y, rfl, ns, hy1, hy2, by simpa using hy⟩, ⟨hI.mono (by omega), hc⟩, fun _ _ h => h⟩
        · refine Owes.mk _ rfl rfl (fun _ _ h => by cases h) fun u m w' hm ⟨hI, hc⟩ hR => ⟨⟨(frm 153 [(84, u 5)]).toArray, []⟩, rfl, fun d hd => by cases hd; exact frm_lt (by decide), ?_⟩
          dsimp only [frm, List.foldl, List.replicate, List.set]
          have hm : m < 11 := hm
          obtain ⟨bs, is, xs, es, ns, ls, hs, cs⟩ := hR 5 (by decide)
          clear hR
          rw [es]
          go_wp2
          exact ⟨rfl, _, rfl, ⟨xs, by omega, by omega, rfl⟩, ⟨hI.mono (by omega), hc⟩, fun _ _ h => h⟩
        · refine Owes.mk _ rfl rfl (fun _ _ h => by cases h) fun u m w' hm ⟨hI, hc⟩ hR => ⟨⟨(frm 153 [(85, u 6)]).toArray, []⟩, rfl, fun d hd => by cases hd; exact frm_lt (by decide), ?_⟩
          dsimp only [frm, List.foldl, List.replicate, List.set]
          have hm : m < 11 := hm
          obtain ⟨xp0, lp0, hp0, ep0⟩ := hR 6 (by decide)
          clear hR
          rw [ep0]
          have hlt := hI.lt
          have nb : w'.heap.size ∉ [rb] := by simp; omega
          have HL := Lib.hid hlt
          have HI := Lib.hid hI
          have HC := Lib.hid hc
          clear hI hc hlt
          go_wp2
          have ba : ∀ A : Array Value, Below w'.heap.size w' (w'.alloc (.cells A 3)) := fun A => below_alloc _ _
          refine ⟨rfl, _, rfl, ⟨_, rfl, nb, fun i hi => ?_⟩, ⟨(HI.out.below (ba _)).mono (by omega), HC.out.trans' ((ba _).chg _)⟩, facts_stable hst ((ba _).chg _)⟩
          have hx : i = 0 := by omega
          rcases hx with rfl
          · exact ⟨xp0, by omega, by omega, alloc1_new _ _ _ 0 rfl⟩
       case hend =>
        intro u w' ⟨hI, hc⟩ hR
        simp only [setAll, List.set_cons_zero, List.set_cons_succ]
        have e1 : u 1 = _ := hR 1 (by decide)
        obtain ⟨b12, e12, n12, c12⟩ := hR 7 (by decide)
        obtain ⟨z2, yl, yh, hz⟩ := c12 0 (by decide)
        rw [e1, e12]
        have HCELL := Lib.hid hz
        have HYB := Lib.hid (allIn_one yl yh)
        have HQw := Lib.hid (QAt.chg HQ2.out hc hrbq)
        have HRw := Lib.hid hI
        have HCw := Lib.hid (HC2.out.step hc (fun k hk => by simp at hk; omega))
        clear hR hI hc hst e1 e12 c12 hz HQ2 HR2 HC2 c6
        refine wpList_appendB (K := 1) (c := IntC) (l := y.lanes) (news := [z2]) (base := bq + 1) rfl _ _ 24 3 i0 (.int .i64 0) 8 IntC_len rfl Try.underlying24 ki kz0 kz1 kz2 rfl (by decide) (by decide) rfl rfl HQw.out.l rfl (by decide) (fun j u hj => by
         have hj0 : j = 0 := by have := (List.getElem?_eq_some_iff.1 hj).1; simpa [IntC] using this
         subst hj0
         simp [IntC] at hj
         subst hj
         exact HCELL.out) (by simp [IntC, Value.oneCell']) (by omega) (by omega) (by have := HQw.out.lt; omega) ?_
        intro v' w2 hown hg hb
        obtain ⟨va, vn, vc, rfl, _⟩ := OwnR.slice hown
        have hne : some bq ≠ (vl).ownBlock := fun e => by have := (own_lt HQw.out.l e.symm).1; omega
        have c6 := hg.cell HQw.out.c6 hne
        have f6 : w2.frozen? ⟨bq, 6, none⟩ = false := (World.frozen?_of_block (hg.block bq HQw.out.lt hne)).trans (HQw.out.fz 6)
        have HQn := Lib.hid (QAt.pushL HQw.out hg hown hb)
        have hbw := grown_below HQw.out.l hg (by have := HQw.out.lt; omega)
        have hsz := hg.size
        have HRn := Lib.hid ((HRw.out.low hbw (by omega) (fun b hb => by have := FLB.out b hb; omega)).chg (store_chg _) (by simp; omega) (fun b hb hb' => by have := FLB.out b hb; simp at hb'; omega) : RdAt (w2.setCell ⟨bq, 6, none⟩ (.slice va vn vc)) rb fq _)
        have HCn := Lib.hid ((HCw.out.below (hbw.mono (by omega))).step (store_chg _) (fun k hk => by simp at hk; omega) : Low rb bq W0 (w2.setCell ⟨bq, 6, none⟩ (.slice va vn vc)))
        clear hown hg hb hne hbw
        go_wp2
        go_roundw
        case rel => exact ⟨k + 1, { y with data := y.data ++ [z], lanes := y.lanes ++ [z2] }, vd2, .slice va vn vc, by omega, by go_num, hym, Lib.hid ⟨HGy.out.1.both, HGy.out.2⟩, HQn.out, Lib.hid (by show (y.data ++ [z]).length = k + 1; rw [List.length_append, hd.out]; rfl), Lib.hid (by show (y.lanes ++ [z2]).length = k + 1; rw [List.length_append, hl.out]; rfl), Lib.hid ⟨allIn_app hin.out.1 HZB.out, allIn_app hin.out.2 HYB.out⟩, HRn.out.mono (by omega), HCn.out⟩
        case measure => simp [intOf]; omega
    · have HQ2 := Lib.hid (show QAt bq wr y vd vl from HQ.out)
      have hkm : k = mm := by omega
      subst hkm
      have HOK : Hid (reqOk y = true) := Lib.hid (good_ok hgy.out.1 (by unfold manyOf; rw [hgy.out.2, hd.out, hym.out]; rfl) (by unfold manyOf; rw [hgy.out.2, hl.out, hym.out]; rfl) hin.out.1 hin.out.2)
      go_wp2_with fail
      exact hK.out ⟨y, vd, vl, HQ2.out, by rw [hd.out]; omega, by rw [hl.out]; omega, HOK.out, HR.out.mono (by omega), HC.out⟩
end Go.Proofs.Ytmcjklicepaiaaa
