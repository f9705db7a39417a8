/-
 Texts of this claim laid together: DBusOr MapEq UniMap Bus.
-/
import Derived.Test.YtmcjklicepaiaaaPk31
import Derived.Test.YtmcjklicepaiaaaPk17
import Derived.Test.YtmcjklicepaiaaaPk18
import Derived.Test.YtmcjklicepaiaaaPk25
import Derived.Deep.QuietTactic
import Derived.BigQuiet
import Derived.OwnWalk
import Derived.StillTailTactics
import Derived.WalkSmall
import Derived.KernelRfl
import Derived.Test.YtmcjklicepaiaaaPk02
import Derived.Test.YtmcjklicepaiaaaProg
import Derived.Test.YtmcjklicepaiaaaPk01
import Derived.Test.YtmcjklicepaiaaaPk04
set_option linter.unusedVariables false
set_option linter.unusedSimpArgs false
namespace Go.Proofs.Ytmcjklicepaiaaa
open Go.RowKit Go.ChangeShapes Go.WideShapes
set_option maxRecDepth 100000 in
set_option maxHeartbeats 6400000 in
theorem l20BusOr_any (L0 : List Nat) (rb : Nat) (fq : List Nat) (N n : Int) (hn : 1 <= n) (hn' : n <= 1000000) (hN : N <= 800000000) (T0 : Tab) (w : World) (hrb : rb ∈ L0) (hfq : ∀ b, b ∈ fq -> b ∈ L0) (h : RdAt w rb fq N) (hT : TH gFit L0 T0 w) :
    Calls Try.prog 57 #[.pointer (some ⟨rb, 0, none⟩), .int .i64 n] w fun e w' => ∃ T lm fm va vn vc la ln lc pa pn pc, BusPost gAny L0 rb fq T0 w (N + 300000) e w' T lm fm va vn vc la ln lc pa pn pc ∧ lm.length <= 7 := by
  have hlt := h.lt
  have hold := h.old
  obtain ⟨w1, hw1⟩ : ∃ z, z = w.alloc (.cells #[.slice none 0 0, .slice none 0 0, .slice none 0 0] 38) := ⟨_, rfl⟩
  have b1 : Below w.heap.size w w1 := by rw [hw1]; exact below_alloc _ _
  have z1 : w.heap.size < w1.heap.size := by rw [hw1]; simp
  have r0 : ∃ u, w1.cell? ⟨w.heap.size, 0, none⟩ = some u := ⟨_, by rw [hw1]; exact alloc1_new _ _ _ 0 rfl⟩
  have r1 : ∃ u, w1.cell? ⟨w.heap.size, 1, none⟩ = some u := ⟨_, by rw [hw1]; exact alloc1_new _ _ _ 1 rfl⟩
  have r2 : ∃ u, w1.cell? ⟨w.heap.size, 2, none⟩ = some u := ⟨_, by rw [hw1]; exact alloc1_new _ _ _ 2 rfl⟩
  have rf : ∀ o, w1.frozen? ⟨w.heap.size, o, none⟩ = false := fun o => by rw [hw1]; exact alloc1_free _ _ _ _
  have HT1 := Lib.hid (hT.opened b1 (Nat.le_refl _) z1)
  have H1 := Lib.hid (h.below b1)
  have HF : Hid (∀ {w2 : World} {T : Tab} {lm : List MR} {fm : List Nat} {va la pa : Option Addr} {vn vc lc pc : Nat} {e : Ending}, BusPost gFit (w.heap.size :: L0) rb fq T0 w1 (N + 200000) e w2 T lm fm va vn vc la 4 lc pa 3 pc ->
      BusC (w2.heap.size :: w.heap.size :: L0) rb w2.heap.size w.heap.size fq w ∧
      BusAt gFit (w2.heap.size :: w.heap.size :: L0) rb w2.heap.size w.heap.size fq T0 w (N + 200000) lm fm (.slice va vn vc) T (w2.alloc (.cells #[.slice va vn vc, .slice la 4 lc, .slice pa 3 pc] 38)) la 4 lc pa 3 pc) := Lib.hid (fun hp => BusAt.start hrb hfq hlt hold b1 z1 (hT.fresh (Nat.le_refl _)) hp r0 r1 r2 rf _)
  have HRB := Lib.hid hrb
  have HFQ := Lib.hid hfq
  clear h hT hrb hfq b1 r0 r1 r2 rf hold
  obtain ⟨i0, ki, kz0, kz1, kz2⟩ := info_parts infoReq
  go_enter Try.func57, Try.ntmps57
  go_upto_region 1 with fail
  rw [<- hw1]
  clear hw1
  go_wp2_with fail
  refine (l20Bus_any (w.heap.size :: L0) rb fq N 6 (by omega) (by omega) (by omega) T0 _ (by simp [HRB.out]) (fun b hb => by simp [HFQ.out b hb]) H1.out HT1.out).mono ?_
  rintro e w2 ⟨T, lm, fm, va, vn, vc, la, lc, pa, pc, hp, hml⟩
  obtain ⟨hC, hB⟩ := HF.out hp
  have HC := Lib.hid hC
  have HB := Lib.hid hB
  have HML := Lib.hid hml
  have HHS : Hid (∀ b, b ∈ L0 -> b ∈ w2.heap.size :: w.heap.size :: L0) := Lib.hid (fun b hb => by simp [hb])
  have e0 := hp.ret
  clear hp hC hB hml HF H1 HT1
  rw [e0]
  clear e0
  go_wp2_with fail
  generalize hbx : w2.heap.size = bx at *
  generalize hcx : w.heap.size = cx at *
  obtain ⟨L, hL⟩ : ∃ z, z = bx :: cx :: L0 := ⟨_, rfl⟩
  rw [<- hL] at HC HB HHS
  clear hL
  have nbx : bx ∉ [rb] := by simpa using HC.out.n1
  refine (odd_any rb fq (N + 200000) n (by omega) (by omega) (by omega) _ HB.out.rd).mono ?_
  rintro e w4 ⟨⟨b, rfl⟩, h1, h2⟩
  have HB4 := Lib.hid ((HB.out.draw HC.out h2 h1).mono (show N + 200000 + 1 <= N + 200010 by omega))
  clear h1 h2 HB
  go_upto_if 10 with fail
  go_cut [] (fun wc => ∃ T lm fm va vn vc la ln lc pa pn pc, BusAt gAny L rb bx cx fq T0 w (N + 250000) lm fm (.slice va vn vc) T wc la ln lc pa pn pc ∧ lm.length <= 7)
  case first =>
    cases b
    · go_wp2_with fail
      go_meet
      case rel => exact ⟨_, _, _, _, _, _, _, _, _, _, _, _, (HB4.out.weaken (fun _ _ => trivial) (by decide)).mono (by omega), HML.out⟩
    · go_wp2_with fail
      refine (pick_any rb fq (N + 200010) 5 (by omega) (by omega) (by omega) _ HB4.out.rd).mono ?_
      rintro e w5 ⟨x5, rfl, lo5, hi5, h1, h2⟩
      have HB5 := Lib.hid ((HB4.out.draw HC.out h2 h1).mono (show N + 200010 + 1 <= N + 200020 by omega))
      have c0 := HB5.out.c0
      have c1 := HB5.out.c1
      have c2 := HB5.out.c2
      have f0 := HB5.out.fr 0
      have f1 := HB5.out.fr 1
      have f2 := HB5.out.fr 2
      clear h1 h2 HB4
      have hx : x5 = 0 ∨ x5 = 1 ∨ x5 = 2 ∨ x5 = 3 ∨ x5 = 4 := by omega
      rcases hx with rfl | rfl | rfl | rfl | rfl
      · go_wp2_with fail
        refine (l20Map_any rb fq (N + 200020) 1 (by omega) (by omega) (by omega) _ HB5.out.rd HB5.out.rd.old).mono ?_
        rintro e w6 ⟨vm, lm', rfl, hmr, hml, h1, h2⟩
        obtain ⟨fm', hms, hfm, -⟩ : ∃ fp, SlR 4 mrR w6 lm' vm fp ∧ (∀ b, b ∈ fp -> w5.heap.size <= b) ∧ fp.Nodup ∧ Free fp w6 := OwnR.reads MrC_len hmr
        obtain ⟨va', vn', vc', rfl⟩ := hms.form
        have hF := Fz.new HB5.out.th h2 hfm (fun b hb => hms.lt mrR_fits b hb)
        have HB6 := Lib.hid (((HB5.out.draw HC.out h2 h1).mono (show N + 200020 + 1000 <= N + 250000 by omega)).setMap HC.out hms hF)
        replace c0 := keep_cell_chg h2 c0 nbx
        replace f0 := (World.frozen?_of_block (h2.block bx (block_of_cell HB5.out.c0) nbx)).trans f0
        have HML2 := Lib.hid hml
        clear h1 h2 hmr hms hF hfm hml HB5 c1 c2 f1 f2
        go_wp2_with fail
        go_meet
        case rel => exact ⟨_, _, _, _, _, _, _, _, _, _, _, _, HB6.out.weaken (fun _ _ => trivial) (by decide), HML2.out⟩
      · obtain ⟨g, off, rfl⟩ := HB5.out.lat.t.addr (by omega)
        have HR := Lib.hid HB5.out.rd
        go_wp2_with fail
        have hst : ∀ F, F ∈ [FEq (.pointer (some ⟨bx, 1, none⟩)), FEq (.slice (some ⟨g, off, none⟩) 4 lc), FEq (.pointer (some ⟨rb, 0, none⟩)), FInt (0) (3), FSl [rb] 2 (-1) (4), FEq (.pointer (some ⟨rb, 0, none⟩)), FInt (0) (1), FPtr [rb] (-1) (4), FInt (-1) (4)] -> Stable [rb] F := by
          simp only [List.forall_mem_cons]
          exact ⟨stEq _ _, stEq _ _, stEq _ _, stInt _ _ _, stSl _ _ _ _, stEq _ _, stInt _ _ _, stPtr _ _ _, stInt _ _ _, fun _ h => by simp at h⟩
        refine wp_region_tail (by kernel_rfl) (fun i => ([[], [0], [], [2], [], [], [2, 3, 5], [2, 3, 4, 5, 6], [2, 3, 4, 5, 6, 7], [0, 1, 2, 3, 4, 5, 6, 7, 8], [0, 1, 2, 3, 4, 5, 6, 7, 8, 9]] : List (List Nat)).getD i []) (facts [FEq (.pointer (some ⟨bx, 1, none⟩)), FEq (.slice (some ⟨g, off, none⟩) 4 lc), FEq (.pointer (some ⟨rb, 0, none⟩)), FInt (0) (3), FSl [rb] 2 (-1) (4), FEq (.pointer (some ⟨rb, 0, none⟩)), FInt (0) (1), FPtr [rb] (-1) (4), FInt (-1) (4)]) (fun m w' => RdAt w' rb fq ((N + 200020) + 1 * m) ∧ Chg [rb] w5 w') 54 11 9 [some 31, some 32, some 33, some 34, some 35, some 36, some 37, some 38, some 39] _ rfl rfl (by decide) rfl rfl (by kernel_rfl) (by kernel_rfl) [] (by kernel_rfl) (fun g b hm v w h => by simp at hm) ?h0 (all_lt (n := 9) ?hop) ?hend
        case h0 => exact ⟨(HR.out.below (Below.refl _ _).drew).mono (by omega), (Chg.refl _ _).drewN 1⟩
        case hop =>
          refine ⟨⟨⟨⟨⟨⟨⟨⟨⟨trivial, ?_⟩, ?_⟩, ?_⟩, ?_⟩, ?_⟩, ?_⟩, ?_⟩, ?_⟩, ?_⟩
          · refine Owes.mk _ rfl rfl (fun _ _ h => by cases h) fun u m w' hm ⟨hI, hc⟩ hR => ⟨⟨#[undef, undef, undef, undef, undef, .pointer (some ⟨bx, 0, none⟩), undef, undef, undef, undef, undef, undef, undef, undef, undef, undef, undef, undef, undef, undef, undef, undef, undef, undef, undef, undef, undef, undef, undef, undef, undef, undef, undef, undef, undef, undef, undef, undef, undef, undef, undef, undef, undef, undef, undef, undef, undef, undef, undef, undef, undef, undef, undef, undef], []⟩, rfl, fun d hd => by cases hd; exact (by decide : 31 < 54), ?_⟩
            have hm : m < 11 := hm
            clear hR
            have k0 := keep_cell_chg hc c1 nbx
            clear hst
            go_wp2
            exact ⟨rfl, _, rfl, rfl, ⟨hI.mono (by omega), hc⟩, fun _ _ h => h⟩
          · refine Owes.mk _ rfl rfl (fun _ _ h => by cases h) fun u m w' hm ⟨hI, hc⟩ hR => ⟨⟨#[undef, undef, undef, undef, undef, undef, undef, undef, undef, undef, undef, undef, undef, undef, undef, undef, undef, undef, undef, undef, undef, undef, undef, undef, undef, undef, undef, undef, undef, undef, undef, u 0, undef, undef, undef, undef, undef, undef, undef, undef, undef, undef, undef, undef, undef, undef, undef, undef, undef, undef, undef, undef, undef, undef], []⟩, rfl, fun d hd => by cases hd; exact (by decide : 32 < 54), ?_⟩
            have hm : m < 11 := hm
            have ev0 : u 0 = _ := hR 0 (by decide)
            clear hR
            rw [ev0]
            have k0 := keep_cell_chg hc c1 nbx
            clear hst
            go_wp2
            exact ⟨rfl, _, rfl, rfl, ⟨hI.mono (by omega), hc⟩, fun _ _ h => h⟩
          · refine Owes.mk _ rfl rfl (fun _ _ h => by cases h) fun u m w' hm ⟨hI, hc⟩ hR => ⟨⟨#[.pointer (some ⟨rb, 0, none⟩), undef, undef, undef, undef, undef, undef, undef, undef, undef, undef, undef, undef, undef, undef, undef, undef, undef, undef, undef, undef, undef, undef, undef, undef, undef, undef, undef, undef, undef, undef, undef, undef, undef, undef, undef, undef, undef, undef, undef, undef, undef, undef, undef, undef, undef, undef, undef, undef, undef, undef, undef, undef, undef], []⟩, rfl, fun d hd => by cases hd; exact (by decide : 33 < 54), ?_⟩
            have hm : m < 11 := hm
            clear hR
            go_wp2
            exact ⟨rfl, _, rfl, rfl, ⟨hI.mono (by omega), hc⟩, fun _ _ h => h⟩
          · refine Owes.mk _ rfl rfl (fun _ _ h => by cases h) fun u m w' hm ⟨hI, hc⟩ hR => ⟨⟨#[undef, undef, undef, undef, undef, undef, undef, undef, undef, undef, undef, undef, undef, undef, undef, undef, undef, undef, undef, undef, undef, undef, undef, undef, undef, undef, undef, undef, undef, undef, undef, undef, undef, u 2, undef, undef, undef, undef, undef, undef, undef, undef, undef, undef, undef, undef, undef, undef, undef, undef, undef, undef, undef, undef], []⟩, rfl, fun d hd => by cases hd; exact (by decide : 34 < 54), ?_⟩
            have hm : m < 11 := hm
            have ea0 : u 2 = _ := hR 2 (by decide)
            clear hR
            rw [ea0]
            go_wp2_with fail
            refine (pick_any rb fq ((N + 200020) + 1 * m) 4 (by omega) (by omega) (by omega) _ hI).mono ?_
            rintro e w2 ⟨x, rfl, lo, hi, g1, g2⟩
            have hs := facts_stable hst g2
            have G1 := Lib.hid (g1.mono (show (N + 200020) + 1 * (m : Int) + 1 <= (N + 200020) + 1 * ((m + 1 : Nat) : Int) by omega))
            have G2 := Lib.hid (hc.trans' g2)
            have HS := Lib.hid hs
            clear g1 g2 hs hc hI hst
            go_wp2
            exact ⟨rfl, _, rfl, ⟨x, by omega, by omega, rfl⟩, ⟨G1.out, G2.out⟩, HS.out⟩
          · refine Owes.mk _ rfl rfl (fun _ _ h => by cases h) fun u m w' hm ⟨hI, hc⟩ hR => ⟨⟨#[undef, undef, undef, undef, undef, undef, undef, undef, undef, undef, undef, undef, undef, undef, undef, undef, undef, undef, undef, undef, undef, undef, undef, undef, undef, undef, undef, undef, undef, undef, undef, undef, undef, undef, undef, undef, undef, undef, undef, undef, undef, undef, undef, undef, undef, undef, undef, undef, undef, undef, undef, undef, undef, undef], []⟩, rfl, fun d hd => by cases hd; exact (by decide : 35 < 54), ?_⟩
            have hm : m < 11 := hm
            clear hR
            have hlt := hI.lt
            have nb : w'.heap.size ∉ [rb] := by simp; omega
            have HL := Lib.hid hlt
            have HI := Lib.hid hI
            have HC := Lib.hid hc
            clear hI hc hlt
            go_wp2
            have ba : ∀ A : Array Value, Below w'.heap.size w' (w'.alloc (.cells A 3)) := fun A => below_alloc _ _
            refine ⟨rfl, _, rfl, ⟨_, rfl, nb, fun i hi => ?_⟩, ⟨(HI.out.below (ba _)).mono (by omega), HC.out.trans' ((ba _).chg _)⟩, facts_stable hst ((ba _).chg _)⟩
            have hx : i = 0 ∨ i = 1 := by omega
            rcases hx with rfl | rfl
            · exact ⟨(-1), by omega, by omega, alloc1_new _ _ _ 0 rfl⟩
            · exact ⟨(4), by omega, by omega, alloc1_new _ _ _ 1 rfl⟩
          · refine Owes.mk _ rfl rfl (fun _ _ h => by cases h) fun u m w' hm ⟨hI, hc⟩ hR => ⟨⟨#[.pointer (some ⟨rb, 0, none⟩), undef, undef, undef, undef, undef, undef, undef, undef, undef, undef, undef, undef, undef, undef, undef, undef, undef, undef, undef, undef, undef, undef, undef, undef, undef, undef, undef, undef, undef, undef, undef, undef, undef, undef, undef, undef, undef, undef, undef, undef, undef, undef, undef, undef, undef, undef, undef, undef, undef, undef, undef, undef, undef], []⟩, rfl, fun d hd => by cases hd; exact (by decide : 36 < 54), ?_⟩
            have hm : m < 11 := hm
            clear hR
            go_wp2
            exact ⟨rfl, _, rfl, rfl, ⟨hI.mono (by omega), hc⟩, fun _ _ h => h⟩
          · refine Owes.mk _ rfl rfl (fun _ _ h => by cases h) fun u m w' hm ⟨hI, hc⟩ hR => ⟨⟨#[undef, undef, undef, undef, undef, undef, undef, undef, undef, undef, undef, undef, undef, undef, undef, undef, undef, undef, undef, undef, undef, undef, undef, undef, undef, undef, undef, undef, undef, undef, undef, undef, undef, undef, undef, undef, u 5, undef, undef, undef, undef, undef, undef, undef, undef, undef, undef, undef, undef, undef, undef, undef, undef, undef], []⟩, rfl, fun d hd => by cases hd; exact (by decide : 37 < 54), ?_⟩
            have hm : m < 11 := hm
            have ea0 : u 5 = _ := hR 5 (by decide)
            clear hR
            rw [ea0]
            go_wp2_with fail
            refine (pick_any rb fq ((N + 200020) + 1 * m) 2 (by omega) (by omega) (by omega) _ hI).mono ?_
            rintro e w2 ⟨x, rfl, lo, hi, g1, g2⟩
            have hs := facts_stable hst g2
            have G1 := Lib.hid (g1.mono (show (N + 200020) + 1 * (m : Int) + 1 <= (N + 200020) + 1 * ((m + 1 : Nat) : Int) by omega))
            have G2 := Lib.hid (hc.trans' g2)
            have HS := Lib.hid hs
            clear g1 g2 hs hc hI hst
            go_wp2
            exact ⟨rfl, _, rfl, ⟨x, by omega, by omega, rfl⟩, ⟨G1.out, G2.out⟩, HS.out⟩
          · refine Owes.mk _ rfl rfl (fun _ _ h => by cases h) fun u m w' hm ⟨hI, hc⟩ hR => ⟨⟨#[undef, undef, undef, undef, undef, undef, undef, undef, undef, undef, undef, undef, undef, undef, undef, undef, undef, undef, undef, undef, undef, undef, undef, undef, undef, undef, undef, undef, undef, undef, undef, undef, undef, undef, undef, u 4, undef, u 6, undef, undef, undef, undef, undef, undef, undef, undef, undef, undef, undef, undef, undef, undef, undef, undef], []⟩, rfl, fun d hd => by cases hd; exact (by decide : 38 < 54), ?_⟩
            have hm : m < 11 := hm
            obtain ⟨bs, es, ns, cs⟩ := hR 4 (by decide)
            obtain ⟨xi, li, hi, ei⟩ := hR 6 (by decide)
            obtain ⟨q, rfl⟩ := Int.eq_ofNat_of_zero_le li
            obtain ⟨y, hy1, hy2, hy⟩ := cs q (by omega)
            have qlt : (q : Int) < 2 := by omega
            clear hR
            rw [es, ei]
            clear cs
            go_wp2
            exact ⟨rfl, _, rfl, ⟨_, _, y, rfl, ns, hy1, hy2, by simpa using hy⟩, ⟨hI.mono (by omega), hc⟩, fun _ _ h => h⟩
          · refine Owes.mk _ rfl rfl (fun _ _ h => by cases h) fun u m w' hm ⟨hI, hc⟩ hR => ⟨⟨#[undef, undef, undef, undef, undef, undef, undef, undef, undef, undef, undef, undef, undef, undef, undef, undef, undef, undef, undef, undef, undef, undef, undef, undef, undef, undef, undef, undef, undef, undef, undef, undef, undef, undef, undef, undef, undef, undef, u 7, undef, undef, undef, undef, undef, undef, undef, undef, undef, undef, undef, undef, undef, undef, undef], []⟩, rfl, fun d hd => by cases hd; exact (by decide : 39 < 54), ?_⟩
            have hm : m < 11 := hm
            obtain ⟨bs, is, xs, es, ns, ls, hs, cs⟩ := hR 7 (by decide)
            clear hR
            rw [es]
            go_wp2
            exact ⟨rfl, _, rfl, ⟨xs, by omega, by omega, rfl⟩, ⟨hI.mono (by omega), hc⟩, fun _ _ h => h⟩
        case hend =>
          intro u w' ⟨hI, hc⟩ hR
          simp only [setAll, List.set_cons_zero, List.set_cons_succ]
          have e1 : u 1 = _ := hR 1 (by decide)
          obtain ⟨q3, lq3, hq3, e3⟩ := hR 3 (by decide)
          obtain ⟨q8, lq8, hq8, e8⟩ := hR 8 (by decide)
          obtain ⟨i3, rfl⟩ := Int.eq_ofNat_of_zero_le lq3
          rw [e1, e3, e8]
          have HB6 := Lib.hid (HB5.out.draw HC.out hc hI)
          have hi4 : i3 < 4 := by omega
          have hi4i : (i3 : Int) < 4 := by omega
          obtain ⟨⟨uu, cu, hUu⟩, fu, T', t', s'⟩ := HB6.out.th.store HB6.out.lat.t hi4 rfl (v := .int .i64 q8) ⟨q8, rfl⟩
          have HB7 := Lib.hid (HB6.out.step HC.out t' s')
          clear hR hI hc hst e1 e3 e8 HB5 HR c0 c1 c2 f0 f1 f2 t' s' HB6 hUu
          go_wp2
          go_meet
          case rel => exact ⟨_, _, _, _, _, _, _, _, _, _, _, _, (HB7.out.weaken (fun _ _ => trivial) (by decide)).mono (by omega), HML.out⟩
      · obtain ⟨g, off, rfl⟩ := HB5.out.lat.t.addr (by omega)
        have hc4 : 4 <= lc := HB5.out.lat.1
        have hc1 : ¬ lc = 1 := by omega
        have HB7 := Lib.hid (HB5.out.setLat HC.out (HB5.out.lat.tail (by omega) (by omega) rfl))
        clear HB5
        go_wp2
        go_meet
        case rel => exact ⟨_, _, _, _, _, _, _, _, _, _, _, _, (HB7.out.weaken (fun _ _ => trivial) (by decide)).mono (by omega), HML.out⟩
      · obtain ⟨g, off, rfl⟩ := HB5.out.prg.t.addr (by omega)
        have hc4 : 3 <= pc := HB5.out.prg.1
        have hc1 : ¬ pc = 1 := by omega
        have HB7 := Lib.hid (HB5.out.setPrg HC.out (HB5.out.prg.tail (by omega) (by omega) rfl))
        clear HB5
        go_wp2
        go_meet
        case rel => exact ⟨_, _, _, _, _, _, _, _, _, _, _, _, (HB7.out.weaken (fun _ _ => trivial) (by decide)).mono (by omega), HML.out⟩
      · have hB6 := HB5.out.weaken (G' := gAny) (fun _ _ => trivial) (by decide)
        obtain ⟨g, off, rfl⟩ := HB5.out.prg.t.addr (by omega)
        obtain ⟨a, nn, cc, cg, hA5, hnn, htg⟩ := HB5.out.prg.t.row (i := 0) (by omega) HB5.out.th
        rw [Nat.add_zero] at cg
        have hgr : g ∉ [rb] := fun hm => by
          simp at hm
          exact htg (by rw [hm]; exact HB5.out.th.rd rb HC.out.hrb)
        have tbx := HB5.out.th.rd bx HC.out.hbx
        have hnn12 : nn <= 12 := hnn
        have HB6 := Lib.hid hB6
        have HA5 := Lib.hid hA5
        have hst : ∀ F, F ∈ [FEq (.pointer (some ⟨bx, 2, none⟩)), FEq (.slice (some ⟨g, off, none⟩) 3 pc), FEq (.pointer (some ⟨bx, 2, none⟩)), FEq (.slice (some ⟨g, off, none⟩) 3 pc), FEq (.pointer (some ⟨g, off, none⟩)), FEq (.slice a nn cc), FEq (.pointer (some ⟨rb, 0, none⟩)), FAny, FAny, FAny] -> Stable [rb] F := by
          simp only [List.forall_mem_cons]
          exact ⟨stEq _ _, stEq _ _, stEq _ _, stEq _ _, stEq _ _, stEq _ _, stEq _ _, stAny _, stAny _, stAny _, fun _ h => by simp at h⟩
        clear hB6 HB5 hA5 hnn htg c0 c1 f0 f1
        go_wp2_with fail
        refine wp_region_tail7 (by kernel_rfl) (fun i => ([[], [0], [], [2], [2, 3], [2, 3, 4], [], [6], [6, 7], [2, 3, 4, 5, 6, 7, 8], [0, 1, 2, 3, 4, 5, 6, 7, 8, 9], [0, 1, 2, 3, 4, 5, 6, 7, 8, 9, 10]] : List (List Nat)).getD i []) (facts [FEq (.pointer (some ⟨bx, 2, none⟩)), FEq (.slice (some ⟨g, off, none⟩) 3 pc), FEq (.pointer (some ⟨bx, 2, none⟩)), FEq (.slice (some ⟨g, off, none⟩) 3 pc), FEq (.pointer (some ⟨g, off, none⟩)), FEq (.slice a nn cc), FEq (.pointer (some ⟨rb, 0, none⟩)), FAny, FAny, FAny]) (OrI L rb fq T w5 nn (N + 200020)) 54 12 10 [some 13, some 14, some 15, some 16, some 17, some 18, some 19, some 20, some 21, some 22] _ rfl rfl (by decide) rfl rfl (by kernel_rfl) (by kernel_rfl) [] (by kernel_rfl) (fun g b hm v w h => by simp at hm) ?h0 (all_lt (n := 10) ?hop) ?hend
        case h0 => exact fun ls u hl => OrI.start HB6.out.rd hl
        case hop =>
          refine ⟨⟨⟨⟨⟨⟨⟨⟨⟨⟨trivial, ?_⟩, ?_⟩, ?_⟩, ?_⟩, ?_⟩, ?_⟩, ?_⟩, ?_⟩, ?_⟩, ?_⟩
          · refine Owes7.mk _ rfl rfl (fun _ _ h => by cases h) fun u m w' hm ls hI hli hld hlT hR => ⟨⟨#[undef, undef, undef, undef, undef, .pointer (some ⟨bx, 0, none⟩), undef, undef, undef, undef, undef, undef, undef, undef, undef, undef, undef, undef, undef, undef, undef, undef, undef, undef, undef, undef, undef, undef, undef, undef, undef, undef, undef, undef, undef, undef, undef, undef, undef, undef, undef, undef, undef, undef, undef, undef, undef, undef, undef, undef, undef, undef, undef, undef], []⟩, rfl, fun d hd => by cases hd; exact (by decide : 13 < 54), ?_⟩
            have k0 := hI.cell c2 nbx tbx
            clear hR hst
            go_wp2
            exact ⟨rfl, _, rfl, rfl, hI.next (by decide) (by decide) (by decide), fun _ _ _ _ h => h⟩
          · refine Owes7.mk _ rfl rfl (fun _ _ h => by cases h) fun u m w' hm ls hI hli hld hlT hR => ⟨⟨#[undef, undef, undef, undef, undef, undef, undef, undef, undef, undef, undef, undef, undef, u 0, undef, undef, undef, undef, undef, undef, undef, undef, undef, undef, undef, undef, undef, undef, undef, undef, undef, undef, undef, undef, undef, undef, undef, undef, undef, undef, undef, undef, undef, undef, undef, undef, undef, undef, undef, undef, undef, undef, undef, undef], []⟩, rfl, fun d hd => by cases hd; exact (by decide : 14 < 54), ?_⟩
            have ev0 : u 0 = _ := hR 0 (by decide)
            clear hR
            rw [ev0]
            have k0 := hI.cell c2 nbx tbx
            clear hst
            go_wp2
            exact ⟨rfl, _, rfl, rfl, hI.next (by decide) (by decide) (by decide), fun _ _ _ _ h => h⟩
          · refine Owes7.mk _ rfl rfl (fun _ _ h => by cases h) fun u m w' hm ls hI hli hld hlT hR => ⟨⟨#[undef, undef, undef, undef, undef, .pointer (some ⟨bx, 0, none⟩), undef, undef, undef, undef, undef, undef, undef, undef, undef, undef, undef, undef, undef, undef, undef, undef, undef, undef, undef, undef, undef, undef, undef, undef, undef, undef, undef, undef, undef, undef, undef, undef, undef, undef, undef, undef, undef, undef, undef, undef, undef, undef, undef, undef, undef, undef, undef, undef], []⟩, rfl, fun d hd => by cases hd; exact (by decide : 15 < 54), ?_⟩
            have k0 := hI.cell c2 nbx tbx
            clear hR hst
            go_wp2
            exact ⟨rfl, _, rfl, rfl, hI.next (by decide) (by decide) (by decide), fun _ _ _ _ h => h⟩
          · refine Owes7.mk _ rfl rfl (fun _ _ h => by cases h) fun u m w' hm ls hI hli hld hlT hR => ⟨⟨#[undef, undef, undef, undef, undef, undef, undef, undef, undef, undef, undef, undef, undef, undef, undef, u 2, undef, undef, undef, undef, undef, undef, undef, undef, undef, undef, undef, undef, undef, undef, undef, undef, undef, undef, undef, undef, undef, undef, undef, undef, undef, undef, undef, undef, undef, undef, undef, undef, undef, undef, undef, undef, undef, undef], []⟩, rfl, fun d hd => by cases hd; exact (by decide : 16 < 54), ?_⟩
            have ev0 : u 2 = _ := hR 2 (by decide)
            clear hR
            rw [ev0]
            have k0 := hI.cell c2 nbx tbx
            clear hst
            go_wp2
            exact ⟨rfl, _, rfl, rfl, hI.next (by decide) (by decide) (by decide), fun _ _ _ _ h => h⟩
          · refine Owes7.mk _ rfl rfl (fun _ _ h => by cases h) fun u m w' hm ls hI hli hld hlT hR => ⟨⟨#[undef, undef, undef, undef, undef, undef, undef, undef, undef, undef, undef, undef, undef, undef, undef, undef, u 3, undef, undef, undef, undef, undef, undef, undef, undef, undef, undef, undef, undef, undef, undef, undef, undef, undef, undef, undef, undef, undef, undef, undef, undef, undef, undef, undef, undef, undef, undef, undef, undef, undef, undef, undef, undef, undef], []⟩, rfl, fun d hd => by cases hd; exact (by decide : 17 < 54), ?_⟩
            have ev0 : u 3 = _ := hR 3 (by decide)
            clear hR
            rw [ev0]
            have k0 := hI.cell c2 nbx tbx
            clear hst
            go_wp2
            exact ⟨rfl, _, rfl, rfl, hI.next (by decide) (by decide) (by decide), fun _ _ _ _ h => h⟩
          · refine Owes7.mk _ rfl rfl (fun _ _ h => by cases h) fun u m w' hm ls hI hli hld hlT hR => ⟨⟨#[undef, undef, undef, undef, undef, undef, undef, undef, undef, undef, undef, undef, undef, undef, undef, undef, undef, u 4, undef, undef, undef, undef, undef, undef, undef, undef, undef, undef, undef, undef, undef, undef, undef, undef, undef, undef, undef, undef, undef, undef, undef, undef, undef, undef, undef, undef, undef, undef, undef, undef, undef, undef, undef, undef], []⟩, rfl, fun d hd => by cases hd; exact (by decide : 18 < 54), ?_⟩
            have l9 : ls 9 = false := by
              cases e : ls 9 with
              | false => rfl
              | true => have := hld 9 e 5 (by decide); rw [hli] at this; cases this
            have ev0 : u 4 = _ := hR 4 (by decide)
            clear hR
            rw [ev0]
            have k0 := keep_cell_chg (hI.2.1 l9).1 cg hgr
            clear hst
            go_wp2
            exact ⟨rfl, _, rfl, rfl, hI.next (by decide) (by decide) (by decide), fun _ _ _ _ h => h⟩
          · refine Owes7.mk _ rfl rfl (fun _ _ h => by cases h) fun u m w' hm ls hI hli hld hlT hR => ⟨⟨#[.pointer (some ⟨rb, 0, none⟩), undef, undef, undef, undef, undef, undef, undef, undef, undef, undef, undef, undef, undef, undef, undef, undef, undef, undef, undef, undef, undef, undef, undef, undef, undef, undef, undef, undef, undef, undef, undef, undef, undef, undef, undef, undef, undef, undef, undef, undef, undef, undef, undef, undef, undef, undef, undef, undef, undef, undef, undef, undef, undef], []⟩, rfl, fun d hd => by cases hd; exact (by decide : 19 < 54), ?_⟩
            clear hR hst
            go_wp2
            exact ⟨rfl, _, rfl, rfl, hI.next (by decide) (by decide) (by decide), fun _ _ _ _ h => h⟩
          · refine Owes7.mk _ rfl rfl (fun _ _ h => by cases h) fun u m w' hm ls hI hli hld hlT hR => ⟨⟨#[undef, undef, undef, undef, undef, undef, undef, undef, undef, undef, undef, undef, undef, undef, undef, undef, undef, undef, undef, u 6, undef, undef, undef, undef, undef, undef, undef, undef, undef, undef, undef, undef, undef, undef, undef, undef, undef, undef, undef, undef, undef, undef, undef, undef, undef, undef, undef, undef, undef, undef, undef, undef, undef, undef], []⟩, rfl, fun d hd => by cases hd; exact (by decide : 20 < 54), ?_⟩
            have l9 : ls 9 = false := by
              cases e : ls 9 with
              | false => rfl
              | true => have := hld 9 e 7 (by decide); rw [hli] at this; cases this
            have l8 : ls 8 = false := by
              cases e : ls 8 with
              | false => rfl
              | true => have := hld 8 e 7 (by decide); rw [hli] at this; cases this
            have hm : m < 12 := hm
            have ev0 : u 6 = _ := hR 6 (by decide)
            clear hR
            rw [ev0]
            go_wp2_with fail
            refine (l20Req_any rb fq (N + 200020 + 3000 * m) 1 (by omega) (by omega) (by omega) _ hI.1 hI.1.old).mono ?_
            rintro e w6 ⟨x, vd, vl, fd, fl', rfl, hsd, hsl, -, -, -, hnew, h1, h2⟩
            obtain ⟨da, dn, dc, rfl⟩ := hsd.form
            obtain ⟨ea, en, ec, rfl⟩ := hsl.form
            have ht' := HB6.out.th.chg (hI.2.1 l9).1 (fun b hb => by simp at hb; subst hb; exact HC.out.hrb)
            have hFz : Fz L T w6 (fd ++ fl') := Fz.new ht' h2 hnew (fun b hb => by
              rcases List.mem_append.1 hb with hb | hb
              · exact hsd.lt intR_fits b hb
              · exact hsl.lt intR_fits b hb)
            have hu6 : UnitOk gAny L T w6 2 [.int .i64 x.id, .int .i64 x.kind, .int .i64 x.addr, .int .i64 x.many, .bool x.wrap, .slice da dn dc, .slice ea en ec] := ⟨x, fd ++ fl', ⟨_, _, fd, fl', rfl, rfl, hsd, hsl⟩, trivial, hFz⟩
            have H7 := Lib.hid (hI.seven l8 l9 h2 h1 hu6)
            have HS7 := Lib.hid (facts_stable hst h2)
            clear hI ht' hFz hu6 hsd hsl h1 h2 hst hnew
            go_wp2
            exact ⟨rfl, _, rfl, trivial, H7.out, keep7 HS7.out⟩
          · refine Owes7.mk _ rfl rfl (fun _ _ h => by cases h) fun u m w' hm ls hI hli hld hlT hR => ⟨⟨#[undef, undef, undef, undef, undef, undef, undef, undef, undef, undef, undef, undef, undef, undef, undef, undef, undef, undef, undef, undef, u 7, undef, undef, undef, undef, undef, undef, undef, undef, undef, undef, undef, undef, undef, undef, undef, undef, undef, undef, undef, undef, undef, undef, undef, undef, undef, undef, undef, undef, undef, undef, undef, undef, undef], []⟩, rfl, fun d hd => by cases hd; exact (by decide : 21 < 54), ?_⟩
            have l9 : ls 9 = false := by
              cases e : ls 9 with
              | false => rfl
              | true => have := hld 9 e 8 (by decide); rw [hli] at this; cases this
            obtain ⟨x, da, dn, dc, ea, en, ec, e7, hU⟩ := (hI.2.1 l9).2.1 (hlT 7 (by decide))
            have H8 := Lib.hid (hI.eight (t := 26) l9 hU)
            have HS8 := Lib.hid (facts_stable hst ((below_alloc w' (.cells #[.int .i64 x.id, .int .i64 x.kind, .int .i64 x.addr, .int .i64 x.many, .bool x.wrap, .slice da dn dc, .slice ea en ec] 26)).chg [rb]))
            rw [e7]
            clear hR hst hI hU e7
            go_wp2
            exact ⟨rfl, _, rfl, trivial, H8.out, keep7 HS8.out⟩
          · refine Owes7.mk _ rfl rfl (fun _ _ h => by cases h) fun u m w' hm ls hI hli hld hlT hR => ⟨⟨#[undef, undef, undef, undef, undef, undef, undef, undef, undef, undef, undef, undef, undef, undef, undef, undef, undef, undef, u 5, undef, undef, u 8, undef, undef, undef, undef, undef, undef, undef, undef, undef, undef, undef, undef, undef, undef, undef, undef, undef, undef, undef, undef, undef, undef, undef, undef, undef, undef, undef, undef, undef, undef, undef, undef], []⟩, rfl, fun d hd => by cases hd; exact (by decide : 22 < 54), ?_⟩
            have l9 : ls 9 = false := hli
            obtain ⟨b8, x, da, dn, dc, ea, en, ec, e8, hU, hcell⟩ := (hI.2.1 l9).2.2 (hlT 8 (by decide))
            have e5 : u 5 = _ := hR 5 (by decide)
            have ht' := HB6.out.th.chg (hI.2.1 l9).1 (fun b hb => by simp at hb; subst hb; exact HC.out.hrb)
            rw [e5, e8]
            refine wpList_appendT (k := 2) (cs := [.int .i64 x.id, .int .i64 x.kind, .int .i64 x.addr, .int .i64 x.many, .bool x.wrap, .slice da dn dc, .slice ea en ec]) rfl _ _ 41 26 i0 (.agg #[.int .i64 0, .int .i64 0, .int .i64 0, .int .i64 0, .bool false, .slice none 0 0, .slice none 0 0]) 88 rfl Try.underlying41 ki kz0 kz1 kz2 rfl (by decide) rfl rfl ht' HA5.out rfl hU hcell (by simp [Value.oneCell']) (by omega) ?_
            intro ao' cap' T' w8 t8 s8 a8
            have H9 := Lib.hid (hI.nine l9 HC.out.hrb HC.out.hfq ht' t8 s8 a8)
            clear hR hst hI hU hcell ht' t8 s8 a8 e5 e8
            go_wp2
            exact ⟨rfl, _, rfl, trivial, H9.out, fun j y _ _ hx => by
              rcases j with _ | _ | _ | _ | _ | _ | _ | _ | _ | _ | j <;> exact hx⟩
        case hend =>
          intro ls u w' hls hI hR
          simp only [setAll, List.set_cons_zero, List.set_cons_succ]
          obtain ⟨ao', cap', T', e9, t', s', a'⟩ := hI.2.2 (hls 9 (by omega))
          have e1 : u 1 = _ := hR 1 (by decide)
          rw [e1, e9]
          have HB7 := Lib.hid (HB6.out.move HC.out t' s' hI.1)
          obtain ⟨⟨uu, cu, -⟩, fu, T'', t'', s''⟩ := HB7.out.th.store HB7.out.prg.t (show 0 < 3 by omega) rfl (v := .slice ao' (nn + 1) cap') ⟨ao', nn + 1, cap', rfl, a', (show nn + 1 <= 13 by omega)⟩
          rw [Nat.add_zero] at cu fu
          simp only [Nat.add_zero] at t'' s''
          have HB8 := Lib.hid (HB7.out.step HC.out t'' s'')
          clear hR hI hst e1 e9 t' s' a' t'' s'' HB7 c2 f2 cg
          go_wp2
          go_meet
          case rel => exact ⟨_, _, _, _, _, _, _, _, _, _, _, _, HB8.out.mono (by omega), HML.out⟩
  case rest =>
    clear HB4 HML
    obtain ⟨T, lm, fm, va, vn, vc, la, ln, lc, pa, pn, pc, hb, hml⟩ := hcut
    have HB := Lib.hid hb
    clear hb
    have c0 := HB.out.c0
    have c1 := HB.out.c1
    have c2 := HB.out.c2
    obtain ⟨u0, r0⟩ := HB.out.r0
    obtain ⟨u1, r1⟩ := HB.out.r1
    obtain ⟨u2, r2⟩ := HB.out.r2
    have f0 := HB.out.fc 0
    have f1 := HB.out.fc 1
    have f2 := HB.out.fc 2
    go_wp2
    refine bodyPost_ret (v := .agg #[.slice va vn vc, .slice la ln lc, .slice pa pn pc]) (by simp [results, Try.results57, go_sem, put3_0 _ _ _ r0, put3_1 _ _ _ r1, put3_2 _ _ _ r2]) rfl ?_
    exact ⟨T, lm, fm, va, vn, vc, la, ln, lc, pa, pn, pc, (HB.out.mono (by omega)).done HC.out HHS.out ((store_chg _).trans' ((store_chg _).trans' (store_chg _))), hml⟩
end Go.Proofs.Ytmcjklicepaiaaa
namespace Go.Proofs.Ytmcjklicepaiaaa
open Go.RowKit
end Go.Proofs.Ytmcjklicepaiaaa
namespace Go.Proofs.Ytmcjklicepaiaaa
open Go.RowKit
end Go.Proofs.Ytmcjklicepaiaaa
namespace Go.Proofs.Ytmcjklicepaiaaa
open Go.RowKit Go.ChangeShapes
structure Bus where
 map : List MR
 lat : List Int
 progs : List (List Req)
 deriving DecidableEq
end Go.Proofs.Ytmcjklicepaiaaa
