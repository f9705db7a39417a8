/-
 Texts of this claim laid together: DMap Addr.
-/
import Derived.Test.YtmcjklicepaiaaaProg
import Derived.Test.YtmcjklicepaiaaaPk08
import Derived.Test.YtmcjklicepaiaaaPk01
import Derived.Test.YtmcjklicepaiaaaPk06
import Derived.Test.YtmcjklicepaiaaaPk02
import Derived.Test.YtmcjklicepaiaaaPk25
import Derived.Test.YtmcjklicepaiaaaPk03
import Derived.Test.YtmcjklicepaiaaaPk07
import Derived.Deep.DeepCutAuto
import Derived.Deep.CutBlock
import Derived.WalkSmall
set_option linter.unusedVariables false
set_option linter.unusedSimpArgs false
namespace Go.Proofs.Ytmcjklicepaiaaa
open Go.RowKit Go.ChangeShapes
abbrev MrRow := OwnR 4 MrC 31
def smMr (l : List MR) : Prop := ∀ x, x ∈ l -> -100 <= x.fr ∧ x.fr <= 100 ∧ -100 <= x.to ∧ x.to <= 100
set_option maxRecDepth 100000 in
set_option maxHeartbeats 3200000 in
theorem l20Map_any (rb : Nat) (fq : List Nat) (N n : Int) (hn : 1 <= n) (hn' : n <= 1000000) (hN : N <= 999000000) (w : World) (h : RdAt w rb fq N) (fl : ∀ b, b ∈ fq -> b < w.heap.size) :
 Calls Try.prog 44 #[.pointer (some ⟨rb, 0, none⟩), .int .i64 n] w fun e w' => ∃ (v : Value) (l : List MR), e = .returned v ∧ MrRow w.heap.size w' v l ∧ l.length <= 7 ∧ RdAt w' rb fq (N + 1000) ∧ Chg [rb] w w' := by
 have hlt := h.lt
 have FL := Lib.hid fl
 clear fl
 have H0 := Lib.hid (h.mono (show N <= N + 0 by omega))
 clear h
 obtain ⟨i0, ki, kz0, kz1, kz2⟩ := info_parts infoMr
 go_enter Try.func44, Try.ntmps44
 go_wp2_with fail
 refine (pick_any rb fq (N + 0) 3 (by omega) (by omega) (by omega) _ H0.out).mono ?_
 rintro e w1 ⟨x1, rfl, lo1, hi1, h1, h2⟩
 have H1 := Lib.hid (h1.mono (show N + 0 + 1 <= N + 1 by omega))
 have C1 := Lib.hid (h2)
 clear h1 h2 H0
 go_wp2_with fail
 have ba := below_alloc w1 (.cells #[.int .i64 0, .int .i64 15, .int .i64 0, .bool false, .int .i64 16, .int .i64 31, .int .i64 1, .bool false, .int .i64 32, .int .i64 47, .int .i64 2, .bool (x1 == 0)] 31)
 have z1 := C1.out.size
 have hr : MrRow w.heap.size (w1.alloc (.cells #[.int .i64 0, .int .i64 15, .int .i64 0, .bool false, .int .i64 16, .int .i64 31, .int .i64 1, .bool false, .int .i64 32, .int .i64 47, .int .i64 2, .bool (x1 == 0)] 31)) (.slice (some ⟨w1.heap.size, 0, none⟩) 3 3) [⟨0, 15, 0, false⟩, ⟨16, 31, 1, false⟩, ⟨32, 47, 2, (x1 == 0)⟩] := OwnR.lit _ _ _ _ MrC_len rfl rfl z1 (by decide)
 refine (pick_any rb fq (N + 1) 4 (by omega) (by omega) (by omega) _ (H1.out.below ba)).mono ?_
 rintro e w2 ⟨x2, rfl, lo2, hi2, h1, h2⟩
 have H2 := Lib.hid (h1.mono (show N + 1 + 1 <= N + 2 by omega))
 have C2 := Lib.hid (C1.out.trans' ((ba.chg [rb]).trans' h2))
 have HR := Lib.hid (OwnR.chg hr h2 hlt)
 clear h1 h2 hr ba H1 C1
 go_upto_block 0 with fail
 go_cut [5] (fun s5 wc => ∃ (g n c : Nat) (l : List MR), s5 = .slice (some ⟨g, 0, none⟩) n c ∧ MrRow w.heap.size wc (.slice (some ⟨g, 0, none⟩) n c) l ∧ smMr l ∧ n = l.length ∧ 1 <= n ∧ n <= 4 ∧ n <= c ∧ c <= maxLen ∧ RdAt wc rb fq (N + 100) ∧ Chg [rb] w wc)
 case first =>
  have sm0 : smMr [⟨0, 15, 0, false⟩, ⟨16, 31, 1, false⟩, ⟨32, 47, 2, (x1 == 0)⟩] := by
   intro x hx
   simp only [List.mem_cons, List.not_mem_nil, or_false] at hx
   rcases hx with rfl | rfl | rfl <;> exact ⟨by simp, by simp, by simp, by simp⟩
  have SM := Lib.hid sm0
  clear sm0
  cases q0 : (x2 == 0)
  · cases q1 : (x2 == 1)
    · go_wp2_with fail
      go_meet
      case rel => exact ⟨_, 3, 3, _, rfl, HR.out, SM.out, rfl, by decide, by decide, by decide, by decide, H2.out.mono (by omega), C2.out⟩
    · go_wp2_with fail
      refine (pick_any rb fq (N + 2) 3 (by omega) (by omega) (by omega) _ H2.out).mono ?_
      rintro e w3 ⟨x3, rfl, lo3, hi3, h1, h2⟩
      have H3 := Lib.hid h1
      have C3 := Lib.hid (C2.out.trans' h2)
      have HR3 := Lib.hid (OwnR.chg HR.out h2 hlt)
      clear h1 h2 HR H2 C2
      have hx : x3 = 0 ∨ x3 = 1 ∨ x3 = 2 := by omega
      rcases hx with rfl | rfl | rfl
      · go_wp2_with fail
        go_meet
        case rel => exact ⟨_, 1, 3, _, rfl, OwnR.take MrC_len HR3.out 1 (by simp), (fun x hx => SM.out x (List.mem_of_mem_take hx)), rfl, by decide, by decide, by decide, by decide, H3.out.mono (by omega), C3.out⟩
      · go_wp2_with fail
        go_meet
        case rel => exact ⟨_, 2, 3, _, rfl, OwnR.take MrC_len HR3.out 2 (by simp), (fun x hx => SM.out x (List.mem_of_mem_take hx)), rfl, by decide, by decide, by decide, by decide, H3.out.mono (by omega), C3.out⟩
      · go_wp2_with fail
        go_meet
        case rel => exact ⟨_, 3, 3, _, rfl, HR3.out, SM.out, rfl, by decide, by decide, by decide, by decide, H3.out.mono (by omega), C3.out⟩
  · go_wp2_with fail
    refine (pick_any rb fq (N + 2) 3 (by omega) (by omega) (by omega) _ H2.out).mono ?_
    rintro e w3 ⟨x3, rfl, lo3, hi3, h1, h2⟩
    have H3 := Lib.hid (h1.mono (show N + 2 + 1 <= N + 3 by omega))
    have C3 := Lib.hid (C2.out.trans' h2)
    clear h1 h2 H2 C2
    go_wp2_with fail
    refine (pick_any rb fq (N + 3) 2 (by omega) (by omega) (by omega) _ H3.out).mono ?_
    rintro e w4 ⟨x4, rfl, lo4, hi4, h1, h2⟩
    have H4 := Lib.hid (h1.mono (show N + 3 + 1 <= N + 4 by omega))
    have C4 := Lib.hid (C3.out.trans' h2)
    clear h1 h2 H3 C3
    go_wp2_with fail
    go_meet
    case rel => exact ⟨w4.heap.size, 4, 4, [⟨0, 7, 0, false⟩, ⟨8, 15, 1, false⟩, ⟨20, 40, x3, false⟩, ⟨41, 63, 2, (x4 == 0)⟩], rfl, OwnR.lit _ _ _ _ MrC_len rfl rfl C4.out.size (by decide), (by
     intro x hx
     simp only [List.mem_cons, List.not_mem_nil, or_false] at hx
     rcases hx with rfl | rfl | rfl | rfl <;> exact ⟨by simp, by simp, by simp, by simp⟩), rfl, by decide, by decide, by decide, by decide, (H4.out.below (below_alloc _ _)).mono (by omega), C4.out.trans' ((below_alloc _ _).chg [rb])⟩
 case rest =>
  obtain ⟨g, n0, c, l, rfl, hr, hsm, hnl, n1, n4, hnc, hcm, hrd, hch⟩ := hcut
  have HR2 := Lib.hid hr
  have HSM := Lib.hid hsm
  have HNL := Lib.hid hnl
  have H2 := Lib.hid hrd
  have C2 := Lib.hid hch
  unfold maxLen at hcm
  clear hr hsm hnl hrd hch HR
  go_wp2_with fail
  refine (odd_any rb fq (N + 100) n (by omega) (by omega) (by omega) _ H2.out).mono ?_
  rintro e w3 ⟨⟨b, rfl⟩, h1, h2⟩
  have H3 := Lib.hid (h1.mono (show N + 100 + 1 <= N + 101 by omega))
  have C3 := Lib.hid (C2.out.trans' h2)
  have HR3 := Lib.hid (OwnR.chg HR2.out h2 hlt)
  clear h1 h2 H2 C2 HR2
  cases b
  · go_wp2
    go_ret
    exact ⟨_, l, rfl, HR3.out, by have := HNL.out; omega, H3.out.mono (by omega), C3.out⟩
  · go_wp2_with fail
    refine (pick_any rb fq (N + 101) n0 (by omega) (by omega) (by omega) _ H3.out).mono ?_
    rintro e w4 ⟨x4, rfl, lo4, hi4, h1, h2⟩
    have H4 := Lib.hid (h1.mono (show N + 101 + 1 <= N + 102 by omega))
    have C4 := Lib.hid (C3.out.trans' h2)
    have HR4 := Lib.hid (OwnR.chg HR3.out h2 hlt)
    clear h1 h2 H3 C3 HR3
    obtain ⟨k, rfl⟩ := Int.eq_ofNat_of_zero_le lo4
    have hk : k < l.length := by have := HNL.out; omega
    go_wp2_with fail
    refine (pick_any rb fq (N + 102) 4 (by omega) (by omega) (by omega) _ H4.out).mono ?_
    rintro e w5 ⟨x5, rfl, lo5, hi5, h1, h2⟩
    have H5 := Lib.hid (h1.mono (show N + 102 + 1 <= N + 103 by omega))
    have C5 := Lib.hid (C4.out.trans' h2)
    have HR5 := Lib.hid (OwnR.chg HR4.out h2 hlt)
    have ng : g ∉ [rb] := by have := (World.ownsRow.lt HR5.out g rfl).1; simp; omega
    clear h1 h2 H4 C4 HR4
    have hx : x5 = 0 ∨ x5 = 1 ∨ x5 = 2 ∨ x5 = 3 := by omega
    rcases hx with rfl | rfl | rfl | rfl
    · have cr : w5.cell? ⟨g, k * 4 + 1, none⟩ = some (.int .i64 l[k].to) := OwnR.cell MrC_len HR5.out hk (j := 1) (by simp [MrC])
      have br : -100 <= l[k].to ∧ l[k].to <= 100 := ⟨(HSM.out l[k] (List.getElem_mem hk)).2.2.1, (HSM.out l[k] (List.getElem_mem hk)).2.2.2⟩
      go_wp2_with fail
      have hst : ∀ F, F ∈ [FEq (.slice (some ⟨g, 0, none⟩) n0 c), FEq (.int .i64 (k : Int)), FEq (.slice (some ⟨g, 0, none⟩) n0 c), FEq (.int .i64 (k : Int)), FEq (.pointer (some ⟨g, k * 4, none⟩)), FEq (.pointer (some ⟨g, k * 4 + 1, none⟩)), FInt (-100) (100), FInt (-99) (101), FSl [rb] 3 (-99) (101), FEq (.pointer (some ⟨rb, 0, none⟩)), FInt (0) (2), FPtr [rb] (-99) (101), FInt (-99) (101)] -> Stable [rb] F := by
       simp only [List.forall_mem_cons]
       exact ⟨stEq _ _, stEq _ _, stEq _ _, stEq _ _, stEq _ _, stEq _ _, stInt _ _ _, stInt _ _ _, stSl _ _ _ _, stEq _ _, stInt _ _ _, stPtr _ _ _, stInt _ _ _, fun _ h => by simp at h⟩
      refine wp_region_tail (by kernel_rfl) (fun i => ([[], [], [], [], [2, 3], [2, 3, 4], [2, 3, 4, 5], [2, 3, 4, 5, 6], [2, 3, 4, 5, 6, 7], [], [9], [2, 3, 4, 5, 6, 7, 8, 9, 10], [2, 3, 4, 5, 6, 7, 8, 9, 10, 11], [0, 1, 2, 3, 4, 5, 6, 7, 8, 9, 10, 11, 12], [0, 1, 2, 3, 4, 5, 6, 7, 8, 9, 10, 11, 12, 13], [0, 1, 2, 3, 4, 5, 6, 7, 8, 9, 10, 11, 12, 13, 14]] : List (List Nat)).getD i []) (facts [FEq (.slice (some ⟨g, 0, none⟩) n0 c), FEq (.int .i64 (k : Int)), FEq (.slice (some ⟨g, 0, none⟩) n0 c), FEq (.int .i64 (k : Int)), FEq (.pointer (some ⟨g, k * 4, none⟩)), FEq (.pointer (some ⟨g, k * 4 + 1, none⟩)), FInt (-100) (100), FInt (-99) (101), FSl [rb] 3 (-99) (101), FEq (.pointer (some ⟨rb, 0, none⟩)), FInt (0) (2), FPtr [rb] (-99) (101), FInt (-99) (101)]) (fun m w' => RdAt w' rb fq (N + 103 + 10 * m) ∧ Chg [rb] w5 w') 96 16 13 [some 52, some 53, some 54, some 55, some 56, some 57, some 58, some 59, some 60, some 61, some 62, some 63, some 64] _ rfl rfl (by decide) rfl rfl (by kernel_rfl) (by kernel_rfl) [] (by kernel_rfl) (fun g b hm v w h => by simp at hm) ?h0 (all_lt (n := 13) ?hop) ?hend
      case h0 => exact ⟨(H5.out.below (Below.refl _ _).drew).mono (by omega), (Chg.refl _ _).drewN 1⟩
      case hop =>
       refine ⟨⟨⟨⟨⟨⟨⟨⟨⟨⟨⟨⟨⟨trivial, ?_⟩, ?_⟩, ?_⟩, ?_⟩, ?_⟩, ?_⟩, ?_⟩, ?_⟩, ?_⟩, ?_⟩, ?_⟩, ?_⟩, ?_⟩
       · refine Owes.mk _ rfl rfl (fun _ _ h => by cases h) fun u m w' hm ⟨hI, hc⟩ hR => ⟨⟨(frm 96 [(5, .slice (some ⟨g, 0, none⟩) n0 c)]).toArray, []⟩, rfl, fun d hd => by cases hd; exact frm_lt (by decide), ?_⟩
         dsimp only [frm, List.foldl, List.replicate, List.set]
         have hm : m < 16 := hm
         clear hR
         go_wp2
         exact ⟨rfl, _, rfl, rfl, ⟨hI.mono (by omega), hc⟩, fun _ _ h => h⟩
       · refine Owes.mk _ rfl rfl (fun _ _ h => by cases h) fun u m w' hm ⟨hI, hc⟩ hR => ⟨⟨(frm 96 [(6, .int .i64 (k : Int))]).toArray, []⟩, rfl, fun d hd => by cases hd; exact frm_lt (by decide), ?_⟩
         dsimp only [frm, List.foldl, List.replicate, List.set]
         have hm : m < 16 := hm
         clear hR
         go_wp2
         exact ⟨rfl, _, rfl, rfl, ⟨hI.mono (by omega), hc⟩, fun _ _ h => h⟩
       · refine Owes.mk _ rfl rfl (fun _ _ h => by cases h) fun u m w' hm ⟨hI, hc⟩ hR => ⟨⟨(frm 96 [(5, .slice (some ⟨g, 0, none⟩) n0 c)]).toArray, []⟩, rfl, fun d hd => by cases hd; exact frm_lt (by decide), ?_⟩
         dsimp only [frm, List.foldl, List.replicate, List.set]
         have hm : m < 16 := hm
         clear hR
         go_wp2
         exact ⟨rfl, _, rfl, rfl, ⟨hI.mono (by omega), hc⟩, fun _ _ h => h⟩
       · refine Owes.mk _ rfl rfl (fun _ _ h => by cases h) fun u m w' hm ⟨hI, hc⟩ hR => ⟨⟨(frm 96 [(6, .int .i64 (k : Int))]).toArray, []⟩, rfl, fun d hd => by cases hd; exact frm_lt (by decide), ?_⟩
         dsimp only [frm, List.foldl, List.replicate, List.set]
         have hm : m < 16 := hm
         clear hR
         go_wp2
         exact ⟨rfl, _, rfl, rfl, ⟨hI.mono (by omega), hc⟩, fun _ _ h => h⟩
       · refine Owes.mk _ rfl rfl (fun _ _ h => by cases h) fun u m w' hm ⟨hI, hc⟩ hR => ⟨⟨(frm 96 [(54, u 2), (55, u 3)]).toArray, []⟩, rfl, fun d hd => by cases hd; exact frm_lt (by decide), ?_⟩
         dsimp only [frm, List.foldl, List.replicate, List.set]
         have hm : m < 16 := hm
         have ev0 : u 2 = _ := hR 2 (by decide)
         have ev1 : u 3 = _ := hR 3 (by decide)
         clear hR
         rw [ev0, ev1]
         have k0 := keep_cell_chg hc cr ng
         clear hst
         go_wp2
         exact ⟨rfl, _, rfl, rfl, ⟨hI.mono (by omega), hc⟩, fun _ _ h => h⟩
       · refine Owes.mk _ rfl rfl (fun _ _ h => by cases h) fun u m w' hm ⟨hI, hc⟩ hR => ⟨⟨(frm 96 [(56, u 4)]).toArray, []⟩, rfl, fun d hd => by cases hd; exact frm_lt (by decide), ?_⟩
         dsimp only [frm, List.foldl, List.replicate, List.set]
         have hm : m < 16 := hm
         have ev0 : u 4 = _ := hR 4 (by decide)
         clear hR
         rw [ev0]
         have k0 := keep_cell_chg hc cr ng
         clear hst
         go_wp2
         exact ⟨rfl, _, rfl, rfl, ⟨hI.mono (by omega), hc⟩, fun _ _ h => h⟩
       · refine Owes.mk _ rfl rfl (fun _ _ h => by cases h) fun u m w' hm ⟨hI, hc⟩ hR => ⟨⟨(frm 96 [(57, u 5)]).toArray, []⟩, rfl, fun d hd => by cases hd; exact frm_lt (by decide), ?_⟩
         dsimp only [frm, List.foldl, List.replicate, List.set]
         have hm : m < 16 := hm
         have ev0 : u 5 = _ := hR 5 (by decide)
         clear hR
         rw [ev0]
         have k0 := keep_cell_chg hc cr ng
         clear hst
         go_wp2
         exact ⟨rfl, _, rfl, ⟨_, by omega, by omega, rfl⟩, ⟨hI.mono (by omega), hc⟩, fun _ _ h => h⟩
       · refine Owes.mk _ rfl rfl (fun _ _ h => by cases h) fun u m w' hm ⟨hI, hc⟩ hR => ⟨⟨(frm 96 [(58, u 6)]).toArray, []⟩, rfl, fun d hd => by cases hd; exact frm_lt (by decide), ?_⟩
         dsimp only [frm, List.foldl, List.replicate, List.set]
         have hm : m < 16 := hm
         obtain ⟨xa, la, ha, ea⟩ := hR 6 (by decide)
         clear hR
         rw [ea]
         go_wp2
         exact ⟨rfl, _, rfl, ⟨_, by omega, by omega, rfl⟩, ⟨hI.mono (by omega), hc⟩, fun _ _ h => h⟩
       · refine Owes.mk _ rfl rfl (fun _ _ h => by cases h) fun u m w' hm ⟨hI, hc⟩ hR => ⟨⟨(frm 96 [(59, u 7)]).toArray, []⟩, rfl, fun d hd => by cases hd; exact frm_lt (by decide), ?_⟩
         dsimp only [frm, List.foldl, List.replicate, List.set]
         have hm : m < 16 := hm
         obtain ⟨xp1, lp1, hp1, ep1⟩ := hR 7 (by decide)
         clear hR
         rw [ep1]
         have hlt := hI.lt
         have nb : w'.heap.size ∉ [rb] := by simp; omega
         have HL := Lib.hid hlt
         have HI := Lib.hid hI
         have HC := Lib.hid hc
         clear hI hc hlt
         go_wp2
         have ba : ∀ A : Array Value, Below w'.heap.size w' (w'.alloc (.cells A 3)) := fun A => below_alloc _ _
         refine ⟨rfl, _, rfl, ⟨_, rfl, nb, fun i hi => ?_⟩, ⟨(HI.out.below (ba _)).mono (by omega), HC.out.trans' ((ba _).chg _)⟩, facts_stable hst ((ba _).chg _)⟩
         have hx : i = 0 ∨ i = 1 ∨ i = 2 := by omega
         rcases hx with rfl | rfl | rfl
         · exact ⟨(-1), by omega, by omega, alloc1_new _ _ _ 0 rfl⟩
         · exact ⟨xp1, by omega, by omega, alloc1_new _ _ _ 1 rfl⟩
         · exact ⟨(5), by omega, by omega, alloc1_new _ _ _ 2 rfl⟩
       · refine Owes.mk _ rfl rfl (fun _ _ h => by cases h) fun u m w' hm ⟨hI, hc⟩ hR => ⟨⟨(frm 96 [(0, .pointer (some ⟨rb, 0, none⟩))]).toArray, []⟩, rfl, fun d hd => by cases hd; exact frm_lt (by decide), ?_⟩
         dsimp only [frm, List.foldl, List.replicate, List.set]
         have hm : m < 16 := hm
         clear hR
         go_wp2
         exact ⟨rfl, _, rfl, rfl, ⟨hI.mono (by omega), hc⟩, fun _ _ h => h⟩
       · refine Owes.mk _ rfl rfl (fun _ _ h => by cases h) fun u m w' hm ⟨hI, hc⟩ hR => ⟨⟨(frm 96 [(61, u 9)]).toArray, []⟩, rfl, fun d hd => by cases hd; exact frm_lt (by decide), ?_⟩
         dsimp only [frm, List.foldl, List.replicate, List.set]
         have hm : m < 16 := hm
         have ea0 : u 9 = _ := hR 9 (by decide)
         clear hR
         rw [ea0]
         go_wp2_with fail
         refine (pick_any rb fq (N + 103 + 10 * m) 3 (by omega) (by omega) (by omega) _ hI).mono ?_
         rintro e w2 ⟨x, rfl, lo, hi, g1, g2⟩
         have hs := facts_stable hst g2
         have G1 := Lib.hid (g1.mono (show N + 103 + 10 * (m : Int) + 1 <= N + 103 + 10 * ((m + 1 : Nat) : Int) by omega))
         have G2 := Lib.hid (hc.trans' g2)
         have HS := Lib.hid hs
         clear g1 g2 hs hc hI hst
         go_wp2
         exact ⟨rfl, _, rfl, ⟨x, by omega, by omega, rfl⟩, ⟨G1.out, G2.out⟩, HS.out⟩
       · refine Owes.mk _ rfl rfl (fun _ _ h => by cases h) fun u m w' hm ⟨hI, hc⟩ hR => ⟨⟨(frm 96 [(60, u 8), (62, u 10)]).toArray, []⟩, rfl, fun d hd => by cases hd; exact frm_lt (by decide), ?_⟩
         dsimp only [frm, List.foldl, List.replicate, List.set]
         have hm : m < 16 := hm
         obtain ⟨bs, es, ns, cs⟩ := hR 8 (by decide)
         obtain ⟨xi, li, hi, ei⟩ := hR 10 (by decide)
         obtain ⟨q, rfl⟩ := Int.eq_ofNat_of_zero_le li
         obtain ⟨y, hy1, hy2, hy⟩ := cs q (by omega)
         have qlt : (q : Int) < 3 := by omega
         clear hR
         rw [es, ei]
         clear cs
         go_wp2
         exact ⟨rfl, _, rfl, ⟨_, _, y, rfl, ns, hy1, hy2, by simpa using hy⟩, ⟨hI.mono (by omega), hc⟩, fun _ _ h => h⟩
       · refine Owes.mk _ rfl rfl (fun _ _ h => by cases h) fun u m w' hm ⟨hI, hc⟩ hR => ⟨⟨(frm 96 [(63, u 11)]).toArray, []⟩, rfl, fun d hd => by cases hd; exact frm_lt (by decide), ?_⟩
         dsimp only [frm, List.foldl, List.replicate, List.set]
         have hm : m < 16 := hm
         obtain ⟨bs, is, xs, es, ns, ls, hs, cs⟩ := hR 11 (by decide)
         clear hR
         rw [es]
         go_wp2
         exact ⟨rfl, _, rfl, ⟨xs, by omega, by omega, rfl⟩, ⟨hI.mono (by omega), hc⟩, fun _ _ h => h⟩
      case hend =>
       intro u w' ⟨hI, hc⟩ hR
       simp only [setAll, List.set_cons_zero, List.set_cons_succ]
       have e0 : u 0 = _ := hR 0 (by decide)
       have e1 : u 1 = _ := hR 1 (by decide)
       obtain ⟨y, ly, hy, e12⟩ := hR 12 (by decide)
       have HR6 := Lib.hid (OwnR.chg HR5.out hc hlt)
       have cw : w'.cell? ⟨g, k * 4, none⟩ = some ((MrC l[k])[0]'(by simp [MrC])) := OwnR.cell MrC_len HR6.out hk (j := 0) (by simp [MrC])
       have fw : w'.frozen? ⟨g, k * 4, none⟩ = false := OwnR.frozen HR6.out _
       obtain ⟨cv, hcv⟩ : ∃ v, v = (MrC l[k])[0]'(by simp [MrC]) := ⟨_, rfl⟩
       rw [<- hcv] at cw
       clear hcv
       have HI := Lib.hid hI
       have HC := Lib.hid (C5.out.trans' hc)
       clear hR hI hc hst
       rw [e0, e1, e12]
       clear e0 e1 e12
       go_wp2
       go_ret
       have hs := OwnR.store MrC_len HR6.out hk (j := 0) (by decide) (.int .i64 y) ⟨y, l[k].to, l[k].sl, l[k].only⟩ rfl
       have hg : w.heap.size <= g := (World.ownsRow.lt HR6.out g rfl).1
       exact ⟨_, _, rfl, hs, by rw [List.length_set]; have := HNL.out; omega, (HI.out.chg (store_chg _) (by simp; omega) (fun b hb hb' => by simp at hb'; have := FL.out b hb; omega)).mono (by omega), (HC.out.trans (store_chg (g := g) _)).drop (fun b hb hlt' => by simp at hb ⊢; omega)⟩
    · have cr : w5.cell? ⟨g, k * 4, none⟩ = some (.int .i64 l[k].fr) := OwnR.cell MrC_len HR5.out hk (j := 0) (by simp [MrC])
      have br : -100 <= l[k].fr ∧ l[k].fr <= 100 := ⟨(HSM.out l[k] (List.getElem_mem hk)).1, (HSM.out l[k] (List.getElem_mem hk)).2.1⟩
      go_wp2_with fail
      have hst : ∀ F, F ∈ [FEq (.slice (some ⟨g, 0, none⟩) n0 c), FEq (.int .i64 (k : Int)), FEq (.slice (some ⟨g, 0, none⟩) n0 c), FEq (.int .i64 (k : Int)), FEq (.pointer (some ⟨g, k * 4, none⟩)), FEq (.pointer (some ⟨g, k * 4, none⟩)), FInt (-100) (100), FInt (-101) (99), FSl [rb] 3 (-101) (99), FEq (.pointer (some ⟨rb, 0, none⟩)), FInt (0) (2), FPtr [rb] (-101) (99), FInt (-101) (99)] -> Stable [rb] F := by
       simp only [List.forall_mem_cons]
       exact ⟨stEq _ _, stEq _ _, stEq _ _, stEq _ _, stEq _ _, stEq _ _, stInt _ _ _, stInt _ _ _, stSl _ _ _ _, stEq _ _, stInt _ _ _, stPtr _ _ _, stInt _ _ _, fun _ h => by simp at h⟩
      refine wp_region_tail (by kernel_rfl) (fun i => ([[], [], [], [], [2, 3], [2, 3, 4], [2, 3, 4, 5], [2, 3, 4, 5, 6], [2, 3, 4, 5, 6, 7], [], [9], [2, 3, 4, 5, 6, 7, 8, 9, 10], [2, 3, 4, 5, 6, 7, 8, 9, 10, 11], [0, 1, 2, 3, 4, 5, 6, 7, 8, 9, 10, 11, 12], [0, 1, 2, 3, 4, 5, 6, 7, 8, 9, 10, 11, 12, 13], [0, 1, 2, 3, 4, 5, 6, 7, 8, 9, 10, 11, 12, 13, 14]] : List (List Nat)).getD i []) (facts [FEq (.slice (some ⟨g, 0, none⟩) n0 c), FEq (.int .i64 (k : Int)), FEq (.slice (some ⟨g, 0, none⟩) n0 c), FEq (.int .i64 (k : Int)), FEq (.pointer (some ⟨g, k * 4, none⟩)), FEq (.pointer (some ⟨g, k * 4, none⟩)), FInt (-100) (100), FInt (-101) (99), FSl [rb] 3 (-101) (99), FEq (.pointer (some ⟨rb, 0, none⟩)), FInt (0) (2), FPtr [rb] (-101) (99), FInt (-101) (99)]) (fun m w' => RdAt w' rb fq (N + 103 + 10 * m) ∧ Chg [rb] w5 w') 96 16 13 [some 69, some 70, some 71, some 72, some 73, some 74, some 75, some 76, some 77, some 78, some 79, some 80, some 81] _ rfl rfl (by decide) rfl rfl (by kernel_rfl) (by kernel_rfl) [] (by kernel_rfl) (fun g b hm v w h => by simp at hm) ?h0 (all_lt (n := 13) ?hop) ?hend
      case h0 => exact ⟨(H5.out.below (Below.refl _ _).drew).mono (by omega), (Chg.refl _ _).drewN 1⟩
      case hop =>
       refine ⟨⟨⟨⟨⟨⟨⟨⟨⟨⟨⟨⟨⟨trivial, ?_⟩, ?_⟩, ?_⟩, ?_⟩, ?_⟩, ?_⟩, ?_⟩, ?_⟩, ?_⟩, ?_⟩, ?_⟩, ?_⟩, ?_⟩
       · refine Owes.mk _ rfl rfl (fun _ _ h => by cases h) fun u m w' hm ⟨hI, hc⟩ hR => ⟨⟨(frm 96 [(5, .slice (some ⟨g, 0, none⟩) n0 c)]).toArray, []⟩, rfl, fun d hd => by cases hd; exact frm_lt (by decide), ?_⟩
         dsimp only [frm, List.foldl, List.replicate, List.set]
         have hm : m < 16 := hm
         clear hR
         go_wp2
         exact ⟨rfl, _, rfl, rfl, ⟨hI.mono (by omega), hc⟩, fun _ _ h => h⟩
       · refine Owes.mk _ rfl rfl (fun _ _ h => by cases h) fun u m w' hm ⟨hI, hc⟩ hR => ⟨⟨(frm 96 [(6, .int .i64 (k : Int))]).toArray, []⟩, rfl, fun d hd => by cases hd; exact frm_lt (by decide), ?_⟩
         dsimp only [frm, List.foldl, List.replicate, List.set]
         have hm : m < 16 := hm
         clear hR
         go_wp2
         exact ⟨rfl, _, rfl, rfl, ⟨hI.mono (by omega), hc⟩, fun _ _ h => h⟩
       · refine Owes.mk _ rfl rfl (fun _ _ h => by cases h) fun u m w' hm ⟨hI, hc⟩ hR => ⟨⟨(frm 96 [(5, .slice (some ⟨g, 0, none⟩) n0 c)]).toArray, []⟩, rfl, fun d hd => by cases hd; exact frm_lt (by decide), ?_⟩
         dsimp only [frm, List.foldl, List.replicate, List.set]
         have hm : m < 16 := hm
         clear hR
         go_wp2
         exact ⟨rfl, _, rfl, rfl, ⟨hI.mono (by omega), hc⟩, fun _ _ h => h⟩
       · refine Owes.mk _ rfl rfl (fun _ _ h => by cases h) fun u m w' hm ⟨hI, hc⟩ hR => ⟨⟨(frm 96 [(6, .int .i64 (k : Int))]).toArray, []⟩, rfl, fun d hd => by cases hd; exact frm_lt (by decide), ?_⟩
         dsimp only [frm, List.foldl, List.replicate, List.set]
         have hm : m < 16 := hm
         clear hR
         go_wp2
         exact ⟨rfl, _, rfl, rfl, ⟨hI.mono (by omega), hc⟩, fun _ _ h => h⟩
       · refine Owes.mk _ rfl rfl (fun _ _ h => by cases h) fun u m w' hm ⟨hI, hc⟩ hR => ⟨⟨(frm 96 [(71, u 2), (72, u 3)]).toArray, []⟩, rfl, fun d hd => by cases hd; exact frm_lt (by decide), ?_⟩
         dsimp only [frm, List.foldl, List.replicate, List.set]
         have hm : m < 16 := hm
         have ev0 : u 2 = _ := hR 2 (by decide)
         have ev1 : u 3 = _ := hR 3 (by decide)
         clear hR
         rw [ev0, ev1]
         have k0 := keep_cell_chg hc cr ng
         clear hst
         go_wp2
         exact ⟨rfl, _, rfl, rfl, ⟨hI.mono (by omega), hc⟩, fun _ _ h => h⟩
       · refine Owes.mk _ rfl rfl (fun _ _ h => by cases h) fun u m w' hm ⟨hI, hc⟩ hR => ⟨⟨(frm 96 [(73, u 4)]).toArray, []⟩, rfl, fun d hd => by cases hd; exact frm_lt (by decide), ?_⟩
         dsimp only [frm, List.foldl, List.replicate, List.set]
         have hm : m < 16 := hm
         have ev0 : u 4 = _ := hR 4 (by decide)
         clear hR
         rw [ev0]
         have k0 := keep_cell_chg hc cr ng
         clear hst
         go_wp2
         exact ⟨rfl, _, rfl, rfl, ⟨hI.mono (by omega), hc⟩, fun _ _ h => h⟩
       · refine Owes.mk _ rfl rfl (fun _ _ h => by cases h) fun u m w' hm ⟨hI, hc⟩ hR => ⟨⟨(frm 96 [(74, u 5)]).toArray, []⟩, rfl, fun d hd => by cases hd; exact frm_lt (by decide), ?_⟩
         dsimp only [frm, List.foldl, List.replicate, List.set]
         have hm : m < 16 := hm
         have ev0 : u 5 = _ := hR 5 (by decide)
         clear hR
         rw [ev0]
         have k0 := keep_cell_chg hc cr ng
         clear hst
         go_wp2
         exact ⟨rfl, _, rfl, ⟨_, by omega, by omega, rfl⟩, ⟨hI.mono (by omega), hc⟩, fun _ _ h => h⟩
       · refine Owes.mk _ rfl rfl (fun _ _ h => by cases h) fun u m w' hm ⟨hI, hc⟩ hR => ⟨⟨(frm 96 [(75, u 6)]).toArray, []⟩, rfl, fun d hd => by cases hd; exact frm_lt (by decide), ?_⟩
         dsimp only [frm, List.foldl, List.replicate, List.set]
         have hm : m < 16 := hm
         obtain ⟨xa, la, ha, ea⟩ := hR 6 (by decide)
         clear hR
         rw [ea]
         go_wp2
         exact ⟨rfl, _, rfl, ⟨_, by omega, by omega, rfl⟩, ⟨hI.mono (by omega), hc⟩, fun _ _ h => h⟩
       · refine Owes.mk _ rfl rfl (fun _ _ h => by cases h) fun u m w' hm ⟨hI, hc⟩ hR => ⟨⟨(frm 96 [(76, u 7)]).toArray, []⟩, rfl, fun d hd => by cases hd; exact frm_lt (by decide), ?_⟩
         dsimp only [frm, List.foldl, List.replicate, List.set]
         have hm : m < 16 := hm
         obtain ⟨xp1, lp1, hp1, ep1⟩ := hR 7 (by decide)
         clear hR
         rw [ep1]
         have hlt := hI.lt
         have nb : w'.heap.size ∉ [rb] := by simp; omega
         have HL := Lib.hid hlt
         have HI := Lib.hid hI
         have HC := Lib.hid hc
         clear hI hc hlt
         go_wp2
         have ba : ∀ A : Array Value, Below w'.heap.size w' (w'.alloc (.cells A 3)) := fun A => below_alloc _ _
         refine ⟨rfl, _, rfl, ⟨_, rfl, nb, fun i hi => ?_⟩, ⟨(HI.out.below (ba _)).mono (by omega), HC.out.trans' ((ba _).chg _)⟩, facts_stable hst ((ba _).chg _)⟩
         have hx : i = 0 ∨ i = 1 ∨ i = 2 := by omega
         rcases hx with rfl | rfl | rfl
         · exact ⟨(64), by omega, by omega, alloc1_new _ _ _ 0 rfl⟩
         · exact ⟨xp1, by omega, by omega, alloc1_new _ _ _ 1 rfl⟩
         · exact ⟨(40), by omega, by omega, alloc1_new _ _ _ 2 rfl⟩
       · refine Owes.mk _ rfl rfl (fun _ _ h => by cases h) fun u m w' hm ⟨hI, hc⟩ hR => ⟨⟨(frm 96 [(0, .pointer (some ⟨rb, 0, none⟩))]).toArray, []⟩, rfl, fun d hd => by cases hd; exact frm_lt (by decide), ?_⟩
         dsimp only [frm, List.foldl, List.replicate, List.set]
         have hm : m < 16 := hm
         clear hR
         go_wp2
         exact ⟨rfl, _, rfl, rfl, ⟨hI.mono (by omega), hc⟩, fun _ _ h => h⟩
       · refine Owes.mk _ rfl rfl (fun _ _ h => by cases h) fun u m w' hm ⟨hI, hc⟩ hR => ⟨⟨(frm 96 [(78, u 9)]).toArray, []⟩, rfl, fun d hd => by cases hd; exact frm_lt (by decide), ?_⟩
         dsimp only [frm, List.foldl, List.replicate, List.set]
         have hm : m < 16 := hm
         have ea0 : u 9 = _ := hR 9 (by decide)
         clear hR
         rw [ea0]
         go_wp2_with fail
         refine (pick_any rb fq (N + 103 + 10 * m) 3 (by omega) (by omega) (by omega) _ hI).mono ?_
         rintro e w2 ⟨x, rfl, lo, hi, g1, g2⟩
         have hs := facts_stable hst g2
         have G1 := Lib.hid (g1.mono (show N + 103 + 10 * (m : Int) + 1 <= N + 103 + 10 * ((m + 1 : Nat) : Int) by omega))
         have G2 := Lib.hid (hc.trans' g2)
         have HS := Lib.hid hs
         clear g1 g2 hs hc hI hst
         go_wp2
         exact ⟨rfl, _, rfl, ⟨x, by omega, by omega, rfl⟩, ⟨G1.out, G2.out⟩, HS.out⟩
       · refine Owes.mk _ rfl rfl (fun _ _ h => by cases h) fun u m w' hm ⟨hI, hc⟩ hR => ⟨⟨(frm 96 [(77, u 8), (79, u 10)]).toArray, []⟩, rfl, fun d hd => by cases hd; exact frm_lt (by decide), ?_⟩
         dsimp only [frm, List.foldl, List.replicate, List.set]
         have hm : m < 16 := hm
         obtain ⟨bs, es, ns, cs⟩ := hR 8 (by decide)
         obtain ⟨xi, li, hi, ei⟩ := hR 10 (by decide)
         obtain ⟨q, rfl⟩ := Int.eq_ofNat_of_zero_le li
         obtain ⟨y, hy1, hy2, hy⟩ := cs q (by omega)
         have qlt : (q : Int) < 3 := by omega
         clear hR
         rw [es, ei]
         clear cs
         go_wp2
         exact ⟨rfl, _, rfl, ⟨_, _, y, rfl, ns, hy1, hy2, by simpa using hy⟩, ⟨hI.mono (by omega), hc⟩, fun _ _ h => h⟩
       · refine Owes.mk _ rfl rfl (fun _ _ h => by cases h) fun u m w' hm ⟨hI, hc⟩ hR => ⟨⟨(frm 96 [(80, u 11)]).toArray, []⟩, rfl, fun d hd => by cases hd; exact frm_lt (by decide), ?_⟩
         dsimp only [frm, List.foldl, List.replicate, List.set]
         have hm : m < 16 := hm
         obtain ⟨bs, is, xs, es, ns, ls, hs, cs⟩ := hR 11 (by decide)
         clear hR
         rw [es]
         go_wp2
         exact ⟨rfl, _, rfl, ⟨xs, by omega, by omega, rfl⟩, ⟨hI.mono (by omega), hc⟩, fun _ _ h => h⟩
      case hend =>
       intro u w' ⟨hI, hc⟩ hR
       simp only [setAll, List.set_cons_zero, List.set_cons_succ]
       have e0 : u 0 = _ := hR 0 (by decide)
       have e1 : u 1 = _ := hR 1 (by decide)
       obtain ⟨y, ly, hy, e12⟩ := hR 12 (by decide)
       have HR6 := Lib.hid (OwnR.chg HR5.out hc hlt)
       have cw : w'.cell? ⟨g, k * 4 + 1, none⟩ = some ((MrC l[k])[1]'(by simp [MrC])) := OwnR.cell MrC_len HR6.out hk (j := 1) (by simp [MrC])
       have fw : w'.frozen? ⟨g, k * 4 + 1, none⟩ = false := OwnR.frozen HR6.out _
       obtain ⟨cv, hcv⟩ : ∃ v, v = (MrC l[k])[1]'(by simp [MrC]) := ⟨_, rfl⟩
       rw [<- hcv] at cw
       clear hcv
       have HI := Lib.hid hI
       have HC := Lib.hid (C5.out.trans' hc)
       clear hR hI hc hst
       rw [e0, e1, e12]
       clear e0 e1 e12
       go_wp2
       go_ret
       have hs := OwnR.store MrC_len HR6.out hk (j := 1) (by decide) (.int .i64 y) ⟨l[k].fr, y, l[k].sl, l[k].only⟩ rfl
       have hg : w.heap.size <= g := (World.ownsRow.lt HR6.out g rfl).1
       exact ⟨_, _, rfl, hs, by rw [List.length_set]; have := HNL.out; omega, (HI.out.chg (store_chg _) (by simp; omega) (fun b hb hb' => by simp at hb'; have := FL.out b hb; omega)).mono (by omega), (HC.out.trans (store_chg (g := g) _)).drop (fun b hb hlt' => by simp at hb ⊢; omega)⟩
    · go_wp2_with fail
      have ba := below_alloc w5 (.cells #[.int .i64 (-1), .int .i64 3] 3)
      have nw : w5.heap.size ∉ [rb] := by have := C5.out.size; simp; omega
      refine (pick_any rb fq (N + 103) 2 (by omega) (by omega) (by omega) _ (H5.out.below ba)).mono ?_
      rintro e w6 ⟨x6, rfl, lo6, hi6, h1, h2⟩
      have H6 := Lib.hid (h1.mono (show N + 103 + 1 <= N + 104 by omega))
      have C6 := Lib.hid (C5.out.trans' ((ba.chg [rb]).trans' h2))
      have HR6 := Lib.hid (OwnR.chg (OwnR.below HR5.out ba) h2 hlt)
      have d0 := keep_cell_chg h2 (alloc1_new w5 _ _ 0 rfl) nw
      have d1 := keep_cell_chg h2 (alloc1_new w5 _ _ 1 rfl) nw
      have cw : w6.cell? ⟨g, k * 4 + 2, none⟩ = some (.int .i64 l[k].sl) := OwnR.cell MrC_len HR6.out hk (j := 2) (by simp [MrC])
      have fw : w6.frozen? ⟨g, k * 4 + 2, none⟩ = false := OwnR.frozen HR6.out _
      have hg : w.heap.size <= g := (World.ownsRow.lt HR6.out g rfl).1
      clear h1 h2 ba H5 C5 HR5
      have hx : x6 = 0 ∨ x6 = 1 := by omega
      rcases hx with rfl | rfl
      · go_wp2
        go_ret
        have hs := OwnR.store MrC_len HR6.out hk (j := 2) (by decide) (.int .i64 (-1)) ⟨l[k].fr, l[k].to, -1, l[k].only⟩ rfl
        exact ⟨_, _, rfl, hs, by rw [List.length_set]; have := HNL.out; omega, (H6.out.chg (store_chg _) (by simp; omega) (fun b hb hb' => by simp at hb'; have := FL.out b hb; omega)).mono (by omega), (C6.out.trans (store_chg (g := g) _)).drop (fun b hb hlt' => by simp at hb ⊢; omega)⟩
      · go_wp2
        go_ret
        have hs := OwnR.store MrC_len HR6.out hk (j := 2) (by decide) (.int .i64 3) ⟨l[k].fr, l[k].to, 3, l[k].only⟩ rfl
        exact ⟨_, _, rfl, hs, by rw [List.length_set]; have := HNL.out; omega, (H6.out.chg (store_chg _) (by simp; omega) (fun b hb hb' => by simp at hb'; have := FL.out b hb; omega)).mono (by omega), (C6.out.trans (store_chg (g := g) _)).drop (fun b hb hlt' => by simp at hb ⊢; omega)⟩
    · have hnl : l.length <= 4 := by have := HNL.out; omega
      have hws := C5.out.size
      go_wp2_with (at_builtin; refine wpList_pushR (m := 3) (K := 4) (l := l) (base := w.heap.size) rfl _ _ 23 31 i0 (.agg #[.int .i64 0, .int .i64 0, .int .i64 0, .bool false]) 32 31 MrC_len rfl Try.underlying23 ki kz0 kz1 kz2 rfl (by decide) (by decide) rfl rfl HR5.out (news := [⟨60, 61, 0, false⟩, ⟨62, 62, 0, false⟩, ⟨63, 63, 0, false⟩]) rfl rfl (by simp [MrC, Value.oneCell']) (by omega) (by decide) hws ?_; intro v' w6 hown' hb'; have HR6 := Lib.hid hown'; have HB6 := Lib.hid hb'; clear hown' hb')
      go_ret
      exact ⟨_, _, rfl, HR6.out, by rw [List.length_append]; simp; omega, (H5.out.low HB6.out hlt FL.out).mono (by omega), C5.out.low HB6.out⟩
end Go.Proofs.Ytmcjklicepaiaaa
namespace Go.Proofs.Ytmcjklicepaiaaa
open Go.RowKit
set_option maxHeartbeats 400000 in
theorem l20Addr_any (rb : Nat) (fq : List Nat) (N : Int) (hN : N <= 999000000) (w : World) (h : RdAt w rb fq N) :
 Calls Try.prog 97 #[.pointer (some ⟨rb, 0, none⟩)] w fun e w' => RetInt 0 63 e ∧ RdAt w' rb fq (N + 7) ∧ Chg [rb] w w' := by
 have H0 := Lib.hid (h.mono (show N <= N + 0 by omega))
 clear h
 go_enter Try.func97, Try.ntmps97
 go_wp2_with fail
 refine (pick_any rb fq (N + 0) 4 (by omega) (by omega) (by omega) _ H0.out).mono ?_
 rintro e w1 ⟨x1, rfl, lo1, hi1, h1, h2⟩
 have H1 := Lib.hid (h1.mono (show N + 0 + 1 <= N + 1 by omega))
 have C1 := Lib.hid (h2)
 clear h1 h2 H0
 go_wp2_with fail
 refine (pick_any rb fq (N + 1) 4 (by omega) (by omega) (by omega) _ H1.out).mono ?_
 rintro e w2 ⟨x2, rfl, lo2, hi2, h1, h2⟩
 have H2 := Lib.hid (h1.mono (show N + 1 + 1 <= N + 2 by omega))
 have C2 := Lib.hid (C1.out.trans' h2)
 clear h1 h2 H1 C1
 go_wp2_with fail
 refine (pick_any rb fq (N + 2) 4 (by omega) (by omega) (by omega) _ H2.out).mono ?_
 rintro e w3 ⟨x3, rfl, lo3, hi3, h1, h2⟩
 have H3 := Lib.hid (h1.mono (show N + 2 + 1 <= N + 3 by omega))
 have C3 := Lib.hid (C2.out.trans' h2)
 clear h1 h2 H2 C2
 go_wp2_with fail
 refine (pick_any rb fq (N + 3) 64 (by omega) (by omega) (by omega) _ H3.out).mono ?_
 rintro e w4 ⟨x4, rfl, lo4, hi4, h1, h2⟩
 have H4 := Lib.hid (h1.mono (show N + 3 + 1 <= N + 4 by omega))
 have C4 := Lib.hid (C3.out.trans' h2)
 clear h1 h2 H3 C3
 go_wp2_with fail
 refine (pick_any rb fq (N + 4) 5 (by omega) (by omega) (by omega) _ H4.out).mono ?_
 rintro e w5 ⟨x5, rfl, lo5, hi5, h1, h2⟩
 have H5 := Lib.hid (h1.mono (show N + 4 + 1 <= N + 5 by omega))
 have C5 := Lib.hid (C4.out.trans' h2)
 clear h1 h2 H4 C4
 go_wp2_with fail
 refine (pick_any rb fq (N + 5) 4 (by omega) (by omega) (by omega) _ H5.out).mono ?_
 rintro e w6 ⟨x6, rfl, lo6, hi6, h1, h2⟩
 have H6 := Lib.hid (h1.mono (show N + 5 + 1 <= N + 6 by omega))
 have C6 := Lib.hid (C5.out.trans' h2)
 clear h1 h2 H5 C5
 go_wp2_with fail
 have hlt := H6.out.lt
 have ba : ∀ (A B : Array Value), Below w6.heap.size w6 ((w6.alloc (.cells A 3)).alloc (.cells B 3)) := fun A B => ((Below.refl _ _).alloc (Nat.le_refl _) _).alloc (by simp) _
 refine (pick_any rb fq (N + 6) 8 (by omega) (by omega) (by omega) _ (H6.out.below (ba _ _))).mono ?_
 rintro e w7 ⟨x7, rfl, lo7, hi7, h1, h2⟩
 have n0 : w6.heap.size ∉ [rb] := by simp; omega
 have n1 : w6.heap.size + 1 ∉ [rb] := by simp; omega
 have c0 := keep_cell_chg h2 (alloc2_old w6 _ _ _ _ 0 rfl) n0
 have c1 := keep_cell_chg h2 (alloc2_old w6 _ _ _ _ 1 rfl) n0
 have c2 := keep_cell_chg h2 (alloc2_old w6 _ _ _ _ 2 rfl) n0
 have c3 := keep_cell_chg h2 (alloc2_old w6 _ _ _ _ 3 rfl) n0
 have c4 := keep_cell_chg h2 (alloc2_old w6 _ _ _ _ 4 rfl) n0
 have c5 := keep_cell_chg h2 (alloc2_old w6 _ _ _ _ 5 rfl) n0
 have d0 := keep_cell_chg h2 (alloc2_new w6 _ _ _ _ 0 rfl) n1
 have d1 := keep_cell_chg h2 (alloc2_new w6 _ _ _ _ 1 rfl) n1
 have d2 := keep_cell_chg h2 (alloc2_new w6 _ _ _ _ 2 rfl) n1
 have d3 := keep_cell_chg h2 (alloc2_new w6 _ _ _ _ 3 rfl) n1
 have d4 := keep_cell_chg h2 (alloc2_new w6 _ _ _ _ 4 rfl) n1
 have d5 := keep_cell_chg h2 (alloc2_new w6 _ _ _ _ 5 rfl) n1
 have d6 := keep_cell_chg h2 (alloc2_new w6 _ _ _ _ 6 rfl) n1
 have d7 := keep_cell_chg h2 (alloc2_new w6 _ _ _ _ 7 rfl) n1
 have H7 := Lib.hid (h1.mono (show N + 6 + 1 <= N + 7 by omega))
 have C7 := Lib.hid (C6.out.trans' (((ba _ _).chg [rb]).trans' h2))
 clear h1 h2 H6 C6 ba
 have hx : x7 = 0 ∨ x7 = 1 ∨ x7 = 2 ∨ x7 = 3 ∨ x7 = 4 ∨ x7 = 5 ∨ x7 = 6 ∨ x7 = 7 := by omega
 rcases hx with rfl | rfl | rfl | rfl | rfl | rfl | rfl | rfl
 all_goals
  go_wp2
  go_ret
  exact ⟨⟨_, by omega, by omega, rfl⟩, H7.out, C7.out⟩
end Go.Proofs.Ytmcjklicepaiaaa
