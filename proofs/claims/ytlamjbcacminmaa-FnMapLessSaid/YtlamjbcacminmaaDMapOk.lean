/-
  What DrawMapOk, DrawMapFind draw: ranges, and an address.
-/
import Derived.Test.YtlamjbcacminmaaProg
import Derived.Test.YtlamjbcacminmaaBase
import Derived.Test.YtlamjbcacminmaaDMap
import Derived.Test.YtlamjbcacminmaaAddr
import Derived.Test.YtlamjbcacminmaaFacts
import Derived.Test.YtlamjbcacminmaaRegion3
namespace Go.Proofs.Ytlamjbcacminmaa
set_option linter.unusedVariables false
set_option linter.unusedSimpArgs false
open Go.RowKit

theorem mrRow_reads {w : World} {base : Nat} {v : Value} {l : List MR} (h : MrRow base w v l) : ∃ fp, SlR 4 mrR w l v fp ∧ (∀ b, b ∈ fp → base ≤ b) ∧ fp.Nodup ∧ Free fp w := OwnR.reads MrC_len h

theorem drawMapOk_any (v : Value) (l : List Int) (fp : List Nat) (w : World) (g : ByteS w l v fp) :
    Calls Try.prog 35 #[v] w fun e w' => ∃ (v' : Value) (x : List MR) (fp' : List Nat), e = .returned v' ∧ SlR 4 mrR w' x v' fp' ∧ x.length ≤ 7 ∧ Below w.heap.size w w' := by
  go_enter Try.func35, Try.ntmps35
  go_wp2_with fail
  refine (l20Open_any v l fp w g).mono ?_
  rintro e w1 ⟨rb, fq, rfl, hrb, hfq, h0, b0⟩
  have H0 := Lib.hid h0
  have B0 := Lib.hid b0
  have fl : ∀ b, b ∈ fq → b < w1.heap.size := fun b hb => by have := hfq b hb; have := b0.size; omega
  have FL := Lib.hid fl
  clear h0 b0 fl
  go_wp2_with fail
  refine (l20Map_any rb fq 0 2 (by omega) (by omega) (by omega) _ H0.out FL.out).mono ?_
  rintro e w2 ⟨v2, x, rfl, hr, hx, h2, c2⟩
  obtain ⟨fp2, s2, _⟩ := mrRow_reads hr
  have S2 := Lib.hid s2
  have HB := Lib.hid (((B0.out.chg [rb]).trans' c2).home (fun b hb => by simp at hb; omega))
  clear hr h2 c2 s2
  go_wp2
  go_ret
  exact ⟨v2, x, fp2, rfl, S2.out, hx, HB.out⟩

set_option maxRecDepth 100000 in
set_option maxHeartbeats 3200000 in
theorem drawMapFind_any (v : Value) (l : List Int) (fp : List Nat) (w : World) (g : ByteS w l v fp) :
    Calls Try.prog 49 #[v] w fun e w' => ∃ (v' : Value) (x : List MR) (fp' : List Nat) (a : Int), e = .returned (.tuple #[v', .int .i64 a]) ∧ SlR 4 mrR w' x v' fp' ∧ x.length ≤ 7 ∧ Below w.heap.size w w' := by
  go_enter Try.func49, Try.ntmps49
  go_wp2_with fail
  refine (l20Open_any v l fp w g).mono ?_
  rintro e w1 ⟨rb, fq, rfl, hrb, hfq, h0, b0⟩
  obtain ⟨N, n0, n1⟩ : ∃ N : Int, 0 ≤ N ∧ N ≤ 0 := ⟨0, by omega, by omega⟩
  have hlt := h0.lt
  have H0 := Lib.hid (h0.mono n0)
  have B0 := Lib.hid b0
  have fl : ∀ b, b ∈ fq → b < w1.heap.size := fun b hb => by have := hfq b hb; have := b0.size; omega
  have FL := Lib.hid fl
  clear h0 b0 fl
  go_wp2_with fail
  have hst : ∀ F, F ∈ [FEq (.pointer (some ⟨rb, 0, none⟩)), fun v w => ∃ l, MrRow w1.heap.size w v l ∧ l.length ≤ 7, FEq (.pointer (some ⟨rb, 0, none⟩)), FInt (0) (63), FSl [rb] 3 (-1) (64), FSl [rb] 6 (0) (2), FEq (.pointer (some ⟨rb, 0, none⟩)), FInt (0) (5), FPtr [rb] (0) (2), FInt (0) (2), FPtr [rb] (-1) (64), FInt (-1) (64), fun v w => ∃ l, MrRow w1.heap.size w v l ∧ l.length ≤ 7, FInt (-1) (64)] → Stable [rb] F := by
    simp only [List.forall_mem_cons]
    exact ⟨stEq _ _, fun _ _ _ ⟨l, h, hl⟩ hc => ⟨l, OwnR.chg h hc hlt, hl⟩, stEq _ _, stInt _ _ _, stSl _ _ _ _, stSl _ _ _ _, stEq _ _, stInt _ _ _, stPtr _ _ _, stInt _ _ _, stPtr _ _ _, stInt _ _ _, fun _ _ _ ⟨l, h, hl⟩ hc => ⟨l, OwnR.chg h hc hlt, hl⟩, stInt _ _ _, fun _ h => by simp at h⟩
  refine wp_region_tail (by kernel_rfl) (fun i => ([[], [0], [], [0, 1, 2], [0, 1, 2, 3], [], [], [0, 1, 2, 3, 6], [0, 1, 2, 3, 5, 6, 7], [0, 1, 2, 3, 5, 6, 7, 8], [0, 1, 2, 3, 4, 5, 6, 7, 8, 9], [0, 1, 2, 3, 4, 5, 6, 7, 8, 9, 10], [0, 1, 2, 3, 6, 7], [0, 1, 2, 3, 4, 5, 6, 7, 8, 9, 10, 11, 12]] : List (List Nat)).getD i []) (facts [FEq (.pointer (some ⟨rb, 0, none⟩)), fun v w => ∃ l, MrRow w1.heap.size w v l ∧ l.length ≤ 7, FEq (.pointer (some ⟨rb, 0, none⟩)), FInt (0) (63), FSl [rb] 3 (-1) (64), FSl [rb] 6 (0) (2), FEq (.pointer (some ⟨rb, 0, none⟩)), FInt (0) (5), FPtr [rb] (0) (2), FInt (0) (2), FPtr [rb] (-1) (64), FInt (-1) (64), fun v w => ∃ l, MrRow w1.heap.size w v l ∧ l.length ≤ 7, FInt (-1) (64)]) (fun m w' => RdAt w' rb fq (N + 2000 * m) ∧ Chg [rb] w1 w') 19 14 14 [some 7, some 8, some 9, some 10, some 11, some 12, some 13, some 14, some 15, some 16, some 17, some 18, some 2, some 3] [] rfl rfl (by decide) rfl rfl (by kernel_rfl) (by kernel_rfl) [] (by kernel_rfl) (fun g b hm v w h => by simp at hm) ?h0 (all_lt (n := 14) ?hop) ?hend
  case h0 => exact ⟨(H0.out.below (Below.refl _ _).drew).mono (by omega), (Chg.refl _ _).drewN 1⟩
  case hop =>
    refine ⟨⟨⟨⟨⟨⟨⟨⟨⟨⟨⟨⟨⟨⟨trivial, ?_⟩, ?_⟩, ?_⟩, ?_⟩, ?_⟩, ?_⟩, ?_⟩, ?_⟩, ?_⟩, ?_⟩, ?_⟩, ?_⟩, ?_⟩, ?_⟩
    · refine Owes.mk _ rfl rfl (fun _ _ h => by cases h) fun u m w' hm ⟨hI, hc⟩ hR => ⟨⟨#[undef, undef, undef, undef, .pointer (some ⟨rb, 0, none⟩), undef, undef, undef, undef, undef, undef, undef, undef, undef, undef, undef, undef, undef, undef], []⟩, rfl, fun d hd => by cases hd; exact (by decide : 7 < 19), ?_⟩
      have hm : m < 14 := hm
      clear hR
      go_wp2
      exact ⟨rfl, _, rfl, rfl, ⟨hI.mono (by omega), hc⟩, fun _ _ h => h⟩
    · refine Owes.mk _ rfl rfl (fun _ _ h => by cases h) fun u m w' hm ⟨hI, hc⟩ hR => ⟨⟨#[undef, undef, undef, undef, undef, undef, undef, u 0, undef, undef, undef, undef, undef, undef, undef, undef, undef, undef, undef], []⟩, rfl, fun d hd => by cases hd; exact (by decide : 8 < 19), ?_⟩
      have hm : m < 14 := hm
      have ev0 : u 0 = _ := hR 0 (by decide)
      clear hR
      rw [ev0]
      go_wp2_with fail
      refine (l20Map_any rb fq (N + 2000 * m) 5 (by omega) (by omega) (by omega) _ hI (fun b hb => by have := FL.out b hb; have := hc.size; omega)).mono ?_
      rintro e w2 ⟨v2, l2, rfl, r2, n2, g1, g2⟩
      have hs := facts_stable hst g2
      have G1 := Lib.hid (g1.mono (show _ ≤ N + 2000 * ((m + 1 : Nat) : Int) by omega))
      have G2 := Lib.hid (hc.trans' g2)
      have HS := Lib.hid hs
      have R2 := Lib.hid (show MrRow w1.heap.size w2 v2 l2 from OwnR.lower r2 hc.size)
      clear g1 g2 hs hc hI hst r2
      go_wp2
      exact ⟨rfl, _, rfl, ⟨l2, R2.out, n2⟩, ⟨G1.out, G2.out⟩, HS.out⟩
    · refine Owes.mk _ rfl rfl (fun _ _ h => by cases h) fun u m w' hm ⟨hI, hc⟩ hR => ⟨⟨#[undef, undef, undef, undef, .pointer (some ⟨rb, 0, none⟩), undef, undef, undef, undef, undef, undef, undef, undef, undef, undef, undef, undef, undef, undef], []⟩, rfl, fun d hd => by cases hd; exact (by decide : 9 < 19), ?_⟩
      have hm : m < 14 := hm
      clear hR
      go_wp2
      exact ⟨rfl, _, rfl, rfl, ⟨hI.mono (by omega), hc⟩, fun _ _ h => h⟩
    · refine Owes.mk _ rfl rfl (fun _ _ h => by cases h) fun u m w' hm ⟨hI, hc⟩ hR => ⟨⟨#[undef, undef, undef, undef, undef, undef, undef, undef, undef, u 2, undef, undef, undef, undef, undef, undef, undef, undef, undef], []⟩, rfl, fun d hd => by cases hd; exact (by decide : 10 < 19), ?_⟩
      have hm : m < 14 := hm
      have ea0 : u 2 = _ := hR 2 (by decide)
      clear hR
      rw [ea0]
      go_wp2_with fail
      refine (l20Addr_any rb fq (N + 2000 * m) (by omega) _ hI).mono ?_
      rintro e w2 ⟨⟨x, lo, hi, rfl⟩, g1, g2⟩
      have hs := facts_stable hst g2
      have G1 := Lib.hid (g1.mono (show _ ≤ N + 2000 * ((m + 1 : Nat) : Int) by omega))
      have G2 := Lib.hid (hc.trans' g2)
      have HS := Lib.hid hs
      clear g1 g2 hs hc hI hst
      go_wp2
      exact ⟨rfl, _, rfl, ⟨x, by omega, by omega, rfl⟩, ⟨G1.out, G2.out⟩, HS.out⟩
    · refine Owes.mk _ rfl rfl (fun _ _ h => by cases h) fun u m w' hm ⟨hI, hc⟩ hR => ⟨⟨#[undef, undef, undef, undef, undef, undef, undef, undef, undef, undef, u 3, undef, undef, undef, undef, undef, undef, undef, undef], []⟩, rfl, fun d hd => by cases hd; exact (by decide : 11 < 19), ?_⟩
      have hm : m < 14 := hm
      obtain ⟨xp0, lp0, hp0, ep0⟩ := hR 3 (by decide)
      clear hR
      rw [ep0]
      have hlt := hI.lt
      have nb : w'.heap.size ∉ [rb] := by simp; omega
      have HL := Lib.hid hlt
      have HI := Lib.hid hI
      have HC := Lib.hid hc
      clear hI hc hlt
      go_wp2
      have ba : ∀ A : Array Value, Below w'.heap.size w' (w'.alloc (.cells A 3)) := fun A => below_alloc _ _
      refine ⟨rfl, _, rfl, ⟨_, rfl, nb, fun i hi => ?_⟩, ⟨(HI.out.below (ba _)).mono (by omega), HC.out.trans' ((ba _).chg _)⟩, facts_stable hst ((ba _).chg _)⟩
      have hx : i = 0 ∨ i = 1 ∨ i = 2 := by omega
      rcases hx with rfl | rfl | rfl
      · exact ⟨xp0, by omega, by omega, alloc1_new _ _ _ 0 rfl⟩
      · exact ⟨(-1), by omega, by omega, alloc1_new _ _ _ 1 rfl⟩
      · exact ⟨(64), by omega, by omega, alloc1_new _ _ _ 2 rfl⟩
    · refine Owes.mk _ rfl rfl (fun _ _ h => by cases h) fun u m w' hm ⟨hI, hc⟩ hR => ⟨⟨#[undef, undef, undef, undef, undef, undef, undef, undef, undef, undef, undef, undef, undef, undef, undef, undef, undef, undef, undef], []⟩, rfl, fun d hd => by cases hd; exact (by decide : 12 < 19), ?_⟩
      have hm : m < 14 := hm
      clear hR
      have hlt := hI.lt
      have nb : w'.heap.size ∉ [rb] := by simp; omega
      have HL := Lib.hid hlt
      have HI := Lib.hid hI
      have HC := Lib.hid hc
      clear hI hc hlt
      go_wp2
      have ba : ∀ A : Array Value, Below w'.heap.size w' (w'.alloc (.cells A 3)) := fun A => below_alloc _ _
      refine ⟨rfl, _, rfl, ⟨_, rfl, nb, fun i hi => ?_⟩, ⟨(HI.out.below (ba _)).mono (by omega), HC.out.trans' ((ba _).chg _)⟩, facts_stable hst ((ba _).chg _)⟩
      have hx : i = 0 ∨ i = 1 ∨ i = 2 ∨ i = 3 ∨ i = 4 ∨ i = 5 := by omega
      rcases hx with rfl | rfl | rfl | rfl | rfl | rfl
      · exact ⟨(0), by omega, by omega, alloc1_new _ _ _ 0 rfl⟩
      · exact ⟨(0), by omega, by omega, alloc1_new _ _ _ 1 rfl⟩
      · exact ⟨(0), by omega, by omega, alloc1_new _ _ _ 2 rfl⟩
      · exact ⟨(0), by omega, by omega, alloc1_new _ _ _ 3 rfl⟩
      · exact ⟨(1), by omega, by omega, alloc1_new _ _ _ 4 rfl⟩
      · exact ⟨(2), by omega, by omega, alloc1_new _ _ _ 5 rfl⟩
    · refine Owes.mk _ rfl rfl (fun _ _ h => by cases h) fun u m w' hm ⟨hI, hc⟩ hR => ⟨⟨#[undef, undef, undef, undef, .pointer (some ⟨rb, 0, none⟩), undef, undef, undef, undef, undef, undef, undef, undef, undef, undef, undef, undef, undef, undef], []⟩, rfl, fun d hd => by cases hd; exact (by decide : 13 < 19), ?_⟩
      have hm : m < 14 := hm
      clear hR
      go_wp2
      exact ⟨rfl, _, rfl, rfl, ⟨hI.mono (by omega), hc⟩, fun _ _ h => h⟩
    · refine Owes.mk _ rfl rfl (fun _ _ h => by cases h) fun u m w' hm ⟨hI, hc⟩ hR => ⟨⟨#[undef, undef, undef, undef, undef, undef, undef, undef, undef, undef, undef, undef, undef, u 6, undef, undef, undef, undef, undef], []⟩, rfl, fun d hd => by cases hd; exact (by decide : 14 < 19), ?_⟩
      have hm : m < 14 := hm
      have ea0 : u 6 = _ := hR 6 (by decide)
      clear hR
      rw [ea0]
      go_wp2_with fail
      refine (pick_any rb fq (N + 2000 * m) 6 (by omega) (by omega) (by omega) _ hI).mono ?_
      rintro e w2 ⟨x, rfl, lo, hi, g1, g2⟩
      have hs := facts_stable hst g2
      have G1 := Lib.hid (g1.mono (show N + 2000 * (m : Int) + 1 ≤ N + 2000 * ((m + 1 : Nat) : Int) by omega))
      have G2 := Lib.hid (hc.trans' g2)
      have HS := Lib.hid hs
      clear g1 g2 hs hc hI hst
      go_wp2
      exact ⟨rfl, _, rfl, ⟨x, by omega, by omega, rfl⟩, ⟨G1.out, G2.out⟩, HS.out⟩
    · refine Owes.mk _ rfl rfl (fun _ _ h => by cases h) fun u m w' hm ⟨hI, hc⟩ hR => ⟨⟨#[undef, undef, undef, undef, undef, undef, undef, undef, undef, undef, undef, undef, u 5, undef, u 7, undef, undef, undef, undef], []⟩, rfl, fun d hd => by cases hd; exact (by decide : 15 < 19), ?_⟩
      have hm : m < 14 := hm
      obtain ⟨bs, es, ns, cs⟩ := hR 5 (by decide)
      obtain ⟨xi, li, hi, ei⟩ := hR 7 (by decide)
      obtain ⟨q, rfl⟩ := Int.eq_ofNat_of_zero_le li
      obtain ⟨y, hy1, hy2, hy⟩ := cs q (by omega)
      have qlt : (q : Int) < 6 := by omega
      clear hR
      rw [es, ei]
      clear cs
      go_wp2
      exact ⟨rfl, _, rfl, ⟨_, _, y, rfl, ns, hy1, hy2, by simpa using hy⟩, ⟨hI.mono (by omega), hc⟩, fun _ _ h => h⟩
    · refine Owes.mk _ rfl rfl (fun _ _ h => by cases h) fun u m w' hm ⟨hI, hc⟩ hR => ⟨⟨#[undef, undef, undef, undef, undef, undef, undef, undef, undef, undef, undef, undef, undef, undef, undef, u 8, undef, undef, undef], []⟩, rfl, fun d hd => by cases hd; exact (by decide : 16 < 19), ?_⟩
      have hm : m < 14 := hm
      obtain ⟨bs, is, xs, es, ns, ls, hs, cs⟩ := hR 8 (by decide)
      clear hR
      rw [es]
      go_wp2
      exact ⟨rfl, _, rfl, ⟨xs, by omega, by omega, rfl⟩, ⟨hI.mono (by omega), hc⟩, fun _ _ h => h⟩
    · refine Owes.mk _ rfl rfl (fun _ _ h => by cases h) fun u m w' hm ⟨hI, hc⟩ hR => ⟨⟨#[undef, undef, undef, undef, undef, undef, undef, undef, undef, undef, undef, u 4, undef, undef, undef, undef, u 9, undef, undef], []⟩, rfl, fun d hd => by cases hd; exact (by decide : 17 < 19), ?_⟩
      have hm : m < 14 := hm
      obtain ⟨bs, es, ns, cs⟩ := hR 4 (by decide)
      obtain ⟨xi, li, hi, ei⟩ := hR 9 (by decide)
      obtain ⟨q, rfl⟩ := Int.eq_ofNat_of_zero_le li
      obtain ⟨y, hy1, hy2, hy⟩ := cs q (by omega)
      have qlt : (q : Int) < 3 := by omega
      clear hR
      rw [es, ei]
      clear cs
      go_wp2
      exact ⟨rfl, _, rfl, ⟨_, _, y, rfl, ns, hy1, hy2, by simpa using hy⟩, ⟨hI.mono (by omega), hc⟩, fun _ _ h => h⟩
    · refine Owes.mk _ rfl rfl (fun _ _ h => by cases h) fun u m w' hm ⟨hI, hc⟩ hR => ⟨⟨#[undef, undef, undef, undef, undef, undef, undef, undef, undef, undef, undef, undef, undef, undef, undef, undef, undef, u 10, undef], []⟩, rfl, fun d hd => by cases hd; exact (by decide : 18 < 19), ?_⟩
      have hm : m < 14 := hm
      obtain ⟨bs, is, xs, es, ns, ls, hs, cs⟩ := hR 10 (by decide)
      clear hR
      rw [es]
      go_wp2
      exact ⟨rfl, _, rfl, ⟨xs, by omega, by omega, rfl⟩, ⟨hI.mono (by omega), hc⟩, fun _ _ h => h⟩
    · refine Owes.mk _ rfl rfl (fun _ _ h => by cases h) fun u m w' hm ⟨hI, hc⟩ hR => ⟨⟨#[undef, undef, undef, undef, undef, undef, undef, undef, u 1, undef, undef, undef, undef, undef, undef, undef, undef, undef, undef], []⟩, rfl, fun d hd => by cases hd; exact (by decide : 2 < 19), ?_⟩
      have hm : m < 14 := hm
      go_wp2
      exact ⟨rfl, _, rfl, hR 1 (by decide), ⟨hI.mono (by omega), hc⟩, fun _ _ h => h⟩
    · refine Owes.mk _ rfl rfl (fun _ _ h => by cases h) fun u m w' hm ⟨hI, hc⟩ hR => ⟨⟨#[undef, undef, undef, undef, undef, undef, undef, undef, undef, undef, undef, undef, undef, undef, undef, undef, undef, undef, u 11], []⟩, rfl, fun d hd => by cases hd; exact (by decide : 3 < 19), ?_⟩
      have hm : m < 14 := hm
      go_wp2
      exact ⟨rfl, _, rfl, hR 11 (by decide), ⟨hI.mono (by omega), hc⟩, fun _ _ h => h⟩
  case hend =>
    intro u w' ⟨hI, hc⟩ hR
    simp only [setAll, List.set_cons_zero, List.set_cons_succ]
    obtain ⟨l2, r2, n2⟩ := hR 12 (by decide)
    obtain ⟨a, _, _, e13⟩ := hR 13 (by decide)
    rw [e13]
    obtain ⟨fp2, s2, _⟩ := mrRow_reads r2
    obtain ⟨va, vn, vc, e12⟩ := s2.form
    rw [e12] at s2 ⊢
    have S2 := Lib.hid s2
    have HB := Lib.hid (((B0.out.chg [rb]).trans' hc).home (fun b hb => by simp at hb; omega))
    clear hR hI hc hst e13 B0 H0 r2 s2 e12
    go_wp2
    go_ret2
    exact ⟨_, l2, fp2, a, rfl, S2.out, n2, HB.out⟩

end Go.Proofs.Ytlamjbcacminmaa
