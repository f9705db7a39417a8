/-
  What DrawToldOf draws: what was told, and a number.
-/
import Derived.Test.YtmcjklicepaiaaaPk37
import Derived.Deep.Cut
namespace Go.Proofs.Ytmcjklicepaiaaa
set_option linter.unusedVariables false
set_option linter.unusedSimpArgs false
open Go.RowKit Go.ChangeShapes Go.WideShapes

/-- what was not told of, and is no reader's, stays -/
theorem Step.home {rb : Nat} {T' : Tab} {w0 w w' : World} (h : Step [rb] (fun _ => none) w T' w') (hb : Below w0.heap.size w0 w) (hr : w0.heap.size ≤ rb) : Below w0.heap.size w0 w' :=
  ((hb.chg [rb]).trans' ⟨h.os, h.tape, h.output, h.size, fun k hk hn => h.block k hk hn rfl⟩).home (fun c hc => by simp at hc; omega)

set_option maxRecDepth 100000 in
set_option maxHeartbeats 3200000 in
theorem drawToldOf_any (v : Value) (l : List Int) (fp : List Nat) (w : World) (g : ByteS w l v fp) :
    Calls Try.prog 31 #[v] w fun e w' => ∃ (le : List Job) (who : Int) (vt : Value) (fe : List Nat), e = .returned (.tuple #[vt, .int .i64 who]) ∧ SlR 5 jobR w' le vt fe ∧ (∀ x, x ∈ le → jobFine x) ∧ le.length ≤ 1000 ∧ Below w.heap.size w w' := by
  go_enter Try.func31, Try.ntmps31
  have G := Lib.hid g
  clear g
  go_wp2_with fail
  refine (l20Open_any v l fp _ G.out).mono ?_
  rintro e w2 ⟨rb, fq, rfl, hrb, hfq, h0, b0⟩
  have hto : ∀ c, c ∈ rb :: fq → c < w2.heap.size := fun c hc => by
    rcases List.mem_cons.1 hc with rfl | hc
    · exact h0.lt
    · exact h0.old c hc
  have H0 := Lib.hid h0
  have B0 := Lib.hid b0
  have HT0 := Lib.hid (TH.empty gFit (rb :: fq) w2 hto)
  clear h0 b0 hto
  go_wp2_with fail
  refine (l20Tlm_b (rb :: fq) rb fq 0 60 (by omega) (by omega) (by omega) _ _ (by simp) (fun b hb => by simp [hb]) H0.out HT0.out).mono ?_
  rintro e w3 ⟨T, lm, fm, va, vn, vc, la, lc, pa, pc, ms, hs, qs, lx, ly, lz, v0, v1, v2, v3, v4, v5, ea, en, ec, rfl, th, st, rd, bv, hla, hlm, hev, hen, hlen, hjf, k0, k1, k2, k3, k4, k5⟩
  obtain ⟨_, _, _, rfl⟩ := k0.form
  obtain ⟨_, _, _, rfl⟩ := k1.form
  obtain ⟨_, _, _, rfl⟩ := k2.form
  obtain ⟨_, _, _, rfl⟩ := k3.form
  obtain ⟨_, _, _, rfl⟩ := k4.form
  obtain ⟨ta, tn, tc, rfl⟩ := k5.form
  rename_i a0 n0 c0 a1 n1 c1 a2 n2 c2 a3 n3 c3 a4 n4 c4
  obtain ⟨ft, ht5, hlo⟩ := k5
  obtain ⟨w4, hw4⟩ : ∃ z, z = (w3.alloc (.cells #[.slice va vn vc, .slice la 4 lc, .slice pa 3 pc] 38)).alloc (.cells #[.slice a0 n0 c0, .slice a1 n1 c1, .slice a2 n2 c2, .slice a3 n3 c3, .slice a4 n4 c4, .slice ta tn tc] 70) := ⟨_, rfl⟩
  have b4 : Below w3.heap.size w3 w4 := by rw [hw4]; exact (below_alloc _ _).trans ((below_alloc _ _).mono (by simp))
  have s5 : w4.cell? ⟨w3.heap.size + 1, 5, none⟩ = some (.slice ta tn tc) := by rw [hw4]; exact alloc2_new _ _ _ _ _ 5 rfl
  have HT5 := Lib.hid (SlR.below jobR_fits ht5 b4)
  have HLO := Lib.hid hlo
  have HJF := Lib.hid hjf.2.2
  have HLEN := Lib.hid hlen.2.2.2.2.2
  have RD := Lib.hid (rd.below b4)
  have hb3 := st.home B0.out hrb
  have HB := Lib.hid (hb3.trans (b4.mono hb3.size))
  have nS : w3.heap.size + 1 ∉ [rb] := by have := rd.lt; simp; omega
  have HRL : Hid (rb < w2.heap.size) := Lib.hid H0.out.lt
  clear th st rd bv hla hlm hev hlen hjf k0 k1 k2 k3 k4 ht5 hlo HT0 b4 hb3 H0 B0
  go_upto_region 3 with fail
  rw [← hw4]
  clear hw4
  have hst : ∀ F, F ∈ [FEq (.pointer (some ⟨w3.heap.size + 1, 5, none⟩)), FEq (.slice ta tn tc), FEq (.pointer (some ⟨rb, 0, none⟩)), FInt (0) (4), FInt (-1) (3), FEq (.slice ta tn tc), FInt (-1) (3)] → Stable [rb] F := by
    simp only [List.forall_mem_cons]
    exact ⟨stEq _ _, stEq _ _, stEq _ _, stInt _ _ _, stInt _ _ _, stEq _ _, stInt _ _ _, fun _ h => by simp at h⟩
  refine wp_region_tail (by kernel_rfl) (fun i => ([[], [0], [], [2], [2, 3], [0, 1, 2, 3], [0, 1, 2, 3, 4, 5]] : List (List Nat)).getD i []) (facts [FEq (.pointer (some ⟨w3.heap.size + 1, 5, none⟩)), FEq (.slice ta tn tc), FEq (.pointer (some ⟨rb, 0, none⟩)), FInt (0) (4), FInt (-1) (3), FEq (.slice ta tn tc), FInt (-1) (3)]) (fun m w' => RdAt w' rb fq ((0 + 300000) + 1 * m) ∧ Chg [rb] w4 w') 21 7 7 [some 16, some 17, some 18, some 19, some 20, some 2, some 3] [] rfl rfl (by decide) rfl rfl (by kernel_rfl) (by kernel_rfl) [] (by kernel_rfl) (fun g b hm v w h => by simp at hm) ?h0 (all_lt (n := 7) ?hop) ?hend
  case h0 => exact ⟨(RD.out.below (Below.refl _ _).drew).mono (by omega), (Chg.refl _ _).drewN 1⟩
  case hop =>
    refine ⟨⟨⟨⟨⟨⟨⟨trivial, ?_⟩, ?_⟩, ?_⟩, ?_⟩, ?_⟩, ?_⟩, ?_⟩
    · refine Owes.mk _ rfl rfl (fun _ _ h => by cases h) fun u m w' hm ⟨hI, hc⟩ hR => ⟨⟨#[undef, undef, undef, undef, undef, undef, .pointer (some ⟨w3.heap.size + 1, 0, none⟩), undef, undef, undef, undef, undef, undef, undef, undef, undef, undef, undef, undef, undef, undef], []⟩, rfl, fun d hd => by cases hd; exact (by decide : 16 < 21), ?_⟩
      have hm : m < 7 := hm
      clear hR
      have k0 := keep_cell_chg hc s5 nS
      clear hst
      go_wp2
      exact ⟨rfl, _, rfl, rfl, ⟨hI.mono (by omega), hc⟩, fun _ _ h => h⟩
    · refine Owes.mk _ rfl rfl (fun _ _ h => by cases h) fun u m w' hm ⟨hI, hc⟩ hR => ⟨⟨#[undef, undef, undef, undef, undef, undef, undef, undef, undef, undef, undef, undef, undef, undef, undef, undef, u 0, undef, undef, undef, undef], []⟩, rfl, fun d hd => by cases hd; exact (by decide : 17 < 21), ?_⟩
      have hm : m < 7 := hm
      have ev0 : u 0 = _ := hR 0 (by decide)
      clear hR
      rw [ev0]
      have k0 := keep_cell_chg hc s5 nS
      clear hst
      go_wp2
      exact ⟨rfl, _, rfl, rfl, ⟨hI.mono (by omega), hc⟩, fun _ _ h => h⟩
    · refine Owes.mk _ rfl rfl (fun _ _ h => by cases h) fun u m w' hm ⟨hI, hc⟩ hR => ⟨⟨#[undef, undef, undef, undef, .pointer (some ⟨rb, 0, none⟩), undef, undef, undef, undef, undef, undef, undef, undef, undef, undef, undef, undef, undef, undef, undef, undef], []⟩, rfl, fun d hd => by cases hd; exact (by decide : 18 < 21), ?_⟩
      have hm : m < 7 := hm
      clear hR
      go_wp2
      exact ⟨rfl, _, rfl, rfl, ⟨hI.mono (by omega), hc⟩, fun _ _ h => h⟩
    · refine Owes.mk _ rfl rfl (fun _ _ h => by cases h) fun u m w' hm ⟨hI, hc⟩ hR => ⟨⟨#[undef, undef, undef, undef, undef, undef, undef, undef, undef, undef, undef, undef, undef, undef, undef, undef, undef, undef, u 2, undef, undef], []⟩, rfl, fun d hd => by cases hd; exact (by decide : 19 < 21), ?_⟩
      have hm : m < 7 := hm
      have ea0 : u 2 = _ := hR 2 (by decide)
      clear hR
      rw [ea0]
      go_wp2_with fail
      refine (pick_any rb fq ((0 + 300000) + 1 * m) 5 (by omega) (by omega) (by omega) _ hI).mono ?_
      rintro e w2 ⟨x, rfl, lo, hi, g1, g2⟩
      have hs := facts_stable hst g2
      have G1 := Lib.hid (g1.mono (show (0 + 300000) + 1 * (m : Int) + 1 ≤ (0 + 300000) + 1 * ((m + 1 : Nat) : Int) by omega))
      have G2 := Lib.hid (hc.trans' g2)
      have HS := Lib.hid hs
      clear g1 g2 hs hc hI hst
      go_wp2
      exact ⟨rfl, _, rfl, ⟨x, by omega, by omega, rfl⟩, ⟨G1.out, G2.out⟩, HS.out⟩
    · refine Owes.mk _ rfl rfl (fun _ _ h => by cases h) fun u m w' hm ⟨hI, hc⟩ hR => ⟨⟨#[undef, undef, undef, undef, undef, undef, undef, undef, undef, undef, undef, undef, undef, undef, undef, undef, undef, undef, undef, u 3, undef], []⟩, rfl, fun d hd => by cases hd; exact (by decide : 20 < 21), ?_⟩
      have hm : m < 7 := hm
      obtain ⟨xa, la, ha, ea⟩ := hR 3 (by decide)
      clear hR
      rw [ea]
      go_wp2
      exact ⟨rfl, _, rfl, ⟨_, by omega, by omega, rfl⟩, ⟨hI.mono (by omega), hc⟩, fun _ _ h => h⟩
    · refine Owes.mk _ rfl rfl (fun _ _ h => by cases h) fun u m w' hm ⟨hI, hc⟩ hR => ⟨⟨#[undef, undef, undef, undef, undef, undef, undef, undef, undef, undef, undef, undef, undef, undef, undef, undef, undef, u 1, undef, undef, undef], []⟩, rfl, fun d hd => by cases hd; exact (by decide : 2 < 21), ?_⟩
      have hm : m < 7 := hm
      go_wp2
      exact ⟨rfl, _, rfl, hR 1 (by decide), ⟨hI.mono (by omega), hc⟩, fun _ _ h => h⟩
    · refine Owes.mk _ rfl rfl (fun _ _ h => by cases h) fun u m w' hm ⟨hI, hc⟩ hR => ⟨⟨#[undef, undef, undef, undef, undef, undef, undef, undef, undef, undef, undef, undef, undef, undef, undef, undef, undef, undef, undef, undef, u 4], []⟩, rfl, fun d hd => by cases hd; exact (by decide : 3 < 21), ?_⟩
      have hm : m < 7 := hm
      go_wp2
      exact ⟨rfl, _, rfl, hR 4 (by decide), ⟨hI.mono (by omega), hc⟩, fun _ _ h => h⟩
  case hend =>
    intro u w' ⟨hI, hc⟩ hR
    simp only [setAll, List.set_cons_zero, List.set_cons_succ]
    have e5 : u 5 = .slice ta tn tc := hR 5 (by decide)
    obtain ⟨x6, lo6, hi6, e6⟩ := hR 6 (by decide)
    rw [e5, e6]
    have HC := Lib.hid hc
    clear hR hst hI hc e5 e6 s5
    go_wp2
    exact bodyPost_ret (v := .tuple #[.slice ta tn tc, .int .i64 x6]) (by simp [results, Try.results31, go_sem]) rfl ⟨lz, x6, _, ft, rfl, HT5.out.chg jobR_fits HC.out (fun c hm e => by have := HLO.out c hm; have := HRL.out; simp at e; omega), HJF.out, HLEN.out, ((HB.out.chg [rb]).trans' HC.out).home (fun c hc => by simp at hc; omega)⟩

end Go.Proofs.Ytmcjklicepaiaaa
