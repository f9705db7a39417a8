/-
  What DrawWrdPut draws: three numbers.
-/
import Derived.Test.YtmnjoogaiokhkaaProg
import Derived.Test.YtmnjoogaiokhkaaBase
import Derived.Test.YtmnjoogaiokhkaaDraw
import Derived.Test.YtmnjoogaiokhkaaFacts
import Derived.Deep.Cut
namespace Go.Proofs.Ytmnjoogaiokhkaa
set_option linter.unusedVariables false
open Go.RowKit

def DrawInts3 (w : World) (e : Ending) (w' : World) : Prop := ∃ a b c : Int, e = .returned (.tuple #[.int .i64 a, .int .i64 b, .int .i64 c]) ∧ Below w.heap.size w w'

set_option maxHeartbeats 1600000 in
theorem drawWrdPut_any (v : Value) (l : List Int) (fp : List Nat) (w : World) (g : ByteS w l v fp) :
    Calls Try.prog 27 #[v] w (DrawInts3 w) := by
  go_enter Try.func27, Try.ntmps27
  go_wp2_with fail
  refine (l20Open_any v l fp w g).mono ?_
  rintro e w1 ⟨rb, fq, rfl, hrb, hfq, h0, b0⟩
  obtain ⟨N, n0, n1⟩ : ∃ N : Int, 0 ≤ N ∧ N ≤ 0 := ⟨0, by omega, by omega⟩
  have H0 := Lib.hid (h0.mono n0)
  have B0 := Lib.hid b0
  clear h0 b0
  go_upto_region 2 with (fail)
  have hst : ∀ F, F ∈ [FEq (.pointer (some ⟨rb, 0, none⟩)), FInt (0) (255), FInt (0) (65280), FEq (.pointer (some ⟨rb, 0, none⟩)), FInt (0) (255), FInt (0) (65535), FSl [rb] 5 (-1) (65536), FSl [rb] 8 (0) (4), FEq (.pointer (some ⟨rb, 0, none⟩)), FInt (0) (7), FPtr [rb] (0) (4), FInt (0) (4), FPtr [rb] (-1) (65536), FInt (-1) (65536), FInt (-1) (65536)] → Stable [rb] F := by
    simp only [List.forall_mem_cons]
    exact ⟨stEq _ _, stInt _ _ _, stInt _ _ _, stEq _ _, stInt _ _ _, stInt _ _ _, stSl _ _ _ _, stSl _ _ _ _, stEq _ _, stInt _ _ _, stPtr _ _ _, stInt _ _ _, stPtr _ _ _, stInt _ _ _, stInt _ _ _, fun _ h => by simp at h⟩
  refine wp_region_rule_text (fun i => ([[], [0], [0, 1], [], [0, 1, 3], [0, 1, 2, 3, 4], [0, 1, 2, 3, 4, 5], [], [], [0, 1, 3, 4, 8], [0, 1, 3, 4, 7, 8, 9], [0, 1, 3, 4, 7, 8, 9, 10], [0, 1, 2, 3, 4, 5, 6, 7, 8, 9, 10, 11], [0, 1, 2, 3, 4, 5, 6, 7, 8, 9, 10, 11, 12], [0, 1, 2, 3, 4, 5, 6, 7, 8, 9, 10, 11, 12, 13]] : List (List Nat)).getD i []) (facts [FEq (.pointer (some ⟨rb, 0, none⟩)), FInt (0) (255), FInt (0) (65280), FEq (.pointer (some ⟨rb, 0, none⟩)), FInt (0) (255), FInt (0) (65535), FSl [rb] 5 (-1) (65536), FSl [rb] 8 (0) (4), FEq (.pointer (some ⟨rb, 0, none⟩)), FInt (0) (7), FPtr [rb] (0) (4), FInt (0) (4), FPtr [rb] (-1) (65536), FInt (-1) (65536), FInt (-1) (65536)]) (fun m w' => RdAt w' rb fq (N + 10 * m) ∧ Chg [rb] w1 w') 38 15 [some 9, some 10, some 11, some 12, some 13, some 14, some 15, some 16, some 17, some 18, some 19, some 20, some 21, some 22, some 6] rfl rfl rfl (by kernel_rfl) ?h0 (all_lt (n := 15) ?hop) ?hend
  case h0 => exact ⟨H0.out.mono (by omega), Chg.refl _ _⟩
  case hop =>
    refine ⟨⟨⟨⟨⟨⟨⟨⟨⟨⟨⟨⟨⟨⟨⟨trivial, ?_⟩, ?_⟩, ?_⟩, ?_⟩, ?_⟩, ?_⟩, ?_⟩, ?_⟩, ?_⟩, ?_⟩, ?_⟩, ?_⟩, ?_⟩, ?_⟩, ?_⟩
    · refine Owes.mk _ rfl rfl (fun _ _ h => by cases h) fun u m w' hm ⟨hI, hc⟩ hR => ⟨⟨#[undef, undef, undef, undef, undef, .pointer (some ⟨rb, 0, none⟩), undef, undef, undef, undef, undef, undef, undef, undef, undef, undef, undef, undef, undef, undef, undef, undef, undef, undef, undef, undef, undef, undef, undef, undef, undef, undef, undef, undef, undef, undef, undef, undef], []⟩, rfl, fun d hd => by cases hd; exact (by decide : 9 < 38), ?_⟩
      have hm : m < 15 := hm
      clear hR
      go_wp2
      exact ⟨rfl, _, rfl, rfl, ⟨hI.mono (by omega), hc⟩, fun _ _ h => h⟩
    · refine Owes.mk _ rfl rfl (fun _ _ h => by cases h) fun u m w' hm ⟨hI, hc⟩ hR => ⟨⟨#[undef, undef, undef, undef, undef, undef, undef, undef, undef, u 0, undef, undef, undef, undef, undef, undef, undef, undef, undef, undef, undef, undef, undef, undef, undef, undef, undef, undef, undef, undef, undef, undef, undef, undef, undef, undef, undef, undef], []⟩, rfl, fun d hd => by cases hd; exact (by decide : 10 < 38), ?_⟩
      have hm : m < 15 := hm
      have ea0 : u 0 = _ := hR 0 (by decide)
      clear hR
      rw [ea0]
      go_wp2_with fail
      refine (pick_any rb fq (N + 10 * m) 256 (by omega) (by omega) (by omega) _ hI).mono ?_
      rintro e w2 ⟨x, rfl, lo, hi, g1, g2⟩
      have hs := facts_stable hst g2
      have G1 := Lib.hid (g1.mono (show N + 10 * (m : Int) + 1 ≤ N + 10 * ((m + 1 : Nat) : Int) by omega))
      have G2 := Lib.hid (hc.trans' g2)
      have HS := Lib.hid hs
      clear g1 g2 hs hc hI hst
      go_wp2
      exact ⟨rfl, _, rfl, ⟨x, by omega, by omega, rfl⟩, ⟨G1.out, G2.out⟩, HS.out⟩
    · refine Owes.mk _ rfl rfl (fun _ _ h => by cases h) fun u m w' hm ⟨hI, hc⟩ hR => ⟨⟨#[undef, undef, undef, undef, undef, undef, undef, undef, undef, undef, u 1, undef, undef, undef, undef, undef, undef, undef, undef, undef, undef, undef, undef, undef, undef, undef, undef, undef, undef, undef, undef, undef, undef, undef, undef, undef, undef, undef], []⟩, rfl, fun d hd => by cases hd; exact (by decide : 11 < 38), ?_⟩
      have hm : m < 15 := hm
      obtain ⟨xa, la, ha, ea⟩ := hR 1 (by decide)
      clear hR
      rw [ea]
      go_wp2
      exact ⟨rfl, _, rfl, ⟨_, by omega, by omega, rfl⟩, ⟨hI.mono (by omega), hc⟩, fun _ _ h => h⟩
    · refine Owes.mk _ rfl rfl (fun _ _ h => by cases h) fun u m w' hm ⟨hI, hc⟩ hR => ⟨⟨#[undef, undef, undef, undef, undef, .pointer (some ⟨rb, 0, none⟩), undef, undef, undef, undef, undef, undef, undef, undef, undef, undef, undef, undef, undef, undef, undef, undef, undef, undef, undef, undef, undef, undef, undef, undef, undef, undef, undef, undef, undef, undef, undef, undef], []⟩, rfl, fun d hd => by cases hd; exact (by decide : 12 < 38), ?_⟩
      have hm : m < 15 := hm
      clear hR
      go_wp2
      exact ⟨rfl, _, rfl, rfl, ⟨hI.mono (by omega), hc⟩, fun _ _ h => h⟩
    · refine Owes.mk _ rfl rfl (fun _ _ h => by cases h) fun u m w' hm ⟨hI, hc⟩ hR => ⟨⟨#[undef, undef, undef, undef, undef, undef, undef, undef, undef, undef, undef, undef, u 3, undef, undef, undef, undef, undef, undef, undef, undef, undef, undef, undef, undef, undef, undef, undef, undef, undef, undef, undef, undef, undef, undef, undef, undef, undef], []⟩, rfl, fun d hd => by cases hd; exact (by decide : 13 < 38), ?_⟩
      have hm : m < 15 := hm
      have ea0 : u 3 = _ := hR 3 (by decide)
      clear hR
      rw [ea0]
      go_wp2_with fail
      refine (pick_any rb fq (N + 10 * m) 256 (by omega) (by omega) (by omega) _ hI).mono ?_
      rintro e w2 ⟨x, rfl, lo, hi, g1, g2⟩
      have hs := facts_stable hst g2
      have G1 := Lib.hid (g1.mono (show N + 10 * (m : Int) + 1 ≤ N + 10 * ((m + 1 : Nat) : Int) by omega))
      have G2 := Lib.hid (hc.trans' g2)
      have HS := Lib.hid hs
      clear g1 g2 hs hc hI hst
      go_wp2
      exact ⟨rfl, _, rfl, ⟨x, by omega, by omega, rfl⟩, ⟨G1.out, G2.out⟩, HS.out⟩
    · refine Owes.mk _ rfl rfl (fun _ _ h => by cases h) fun u m w' hm ⟨hI, hc⟩ hR => ⟨⟨#[undef, undef, undef, undef, undef, undef, undef, undef, undef, undef, undef, u 2, undef, u 4, undef, undef, undef, undef, undef, undef, undef, undef, undef, undef, undef, undef, undef, undef, undef, undef, undef, undef, undef, undef, undef, undef, undef, undef], []⟩, rfl, fun d hd => by cases hd; exact (by decide : 14 < 38), ?_⟩
      have hm : m < 15 := hm
      obtain ⟨xa, la, ha, ea⟩ := hR 2 (by decide)
      obtain ⟨xb, lb, hb, eb⟩ := hR 4 (by decide)
      clear hR
      rw [ea, eb]
      go_wp2
      exact ⟨rfl, _, rfl, ⟨_, by omega, by omega, rfl⟩, ⟨hI.mono (by omega), hc⟩, fun _ _ h => h⟩
    · refine Owes.mk _ rfl rfl (fun _ _ h => by cases h) fun u m w' hm ⟨hI, hc⟩ hR => ⟨⟨#[undef, undef, undef, undef, undef, undef, undef, undef, undef, undef, undef, undef, undef, undef, u 5, undef, undef, undef, undef, undef, undef, undef, undef, undef, undef, undef, undef, undef, undef, undef, undef, undef, undef, undef, undef, undef, undef, undef], []⟩, rfl, fun d hd => by cases hd; exact (by decide : 15 < 38), ?_⟩
      have hm : m < 15 := hm
      obtain ⟨xp0, lp0, hp0, ep0⟩ := hR 5 (by decide)
      clear hR
      rw [ep0]
      have hlt := hI.lt
      have nb : w'.heap.size ∉ [rb] := by simp; omega
      have HL := Lib.hid hlt
      have HI := Lib.hid hI
      have HC := Lib.hid hc
      clear hI hc hlt
      go_wp2
      have ba : ∀ A : Array Value, Below w'.heap.size w' (w'.alloc (.cells A 3)) := fun A => below_alloc _ _
      refine ⟨rfl, _, rfl, ⟨_, rfl, nb, fun i hi => ?_⟩, ⟨(HI.out.below (ba _)).mono (by omega), HC.out.trans' ((ba _).chg _)⟩, facts_stable hst ((ba _).chg _)⟩
      have hx : i = 0 ∨ i = 1 ∨ i = 2 ∨ i = 3 ∨ i = 4 := by omega
      rcases hx with rfl | rfl | rfl | rfl | rfl
      · exact ⟨xp0, by omega, by omega, alloc1_new _ _ _ 0 rfl⟩
      · exact ⟨(65535), by omega, by omega, alloc1_new _ _ _ 1 rfl⟩
      · exact ⟨(0), by omega, by omega, alloc1_new _ _ _ 2 rfl⟩
      · exact ⟨(-1), by omega, by omega, alloc1_new _ _ _ 3 rfl⟩
      · exact ⟨(65536), by omega, by omega, alloc1_new _ _ _ 4 rfl⟩
    · refine Owes.mk _ rfl rfl (fun _ _ h => by cases h) fun u m w' hm ⟨hI, hc⟩ hR => ⟨⟨#[undef, undef, undef, undef, undef, undef, undef, undef, undef, undef, undef, undef, undef, undef, undef, undef, undef, undef, undef, undef, undef, undef, undef, undef, undef, undef, undef, undef, undef, undef, undef, undef, undef, undef, undef, undef, undef, undef], []⟩, rfl, fun d hd => by cases hd; exact (by decide : 16 < 38), ?_⟩
      have hm : m < 15 := hm
      clear hR
      have hlt := hI.lt
      have nb : w'.heap.size ∉ [rb] := by simp; omega
      have HL := Lib.hid hlt
      have HI := Lib.hid hI
      have HC := Lib.hid hc
      clear hI hc hlt
      go_wp2
      have ba : ∀ A : Array Value, Below w'.heap.size w' (w'.alloc (.cells A 3)) := fun A => below_alloc _ _
      refine ⟨rfl, _, rfl, ⟨_, rfl, nb, fun i hi => ?_⟩, ⟨(HI.out.below (ba _)).mono (by omega), HC.out.trans' ((ba _).chg _)⟩, facts_stable hst ((ba _).chg _)⟩
      have hx : i = 0 ∨ i = 1 ∨ i = 2 ∨ i = 3 ∨ i = 4 ∨ i = 5 ∨ i = 6 ∨ i = 7 := by omega
      rcases hx with rfl | rfl | rfl | rfl | rfl | rfl | rfl | rfl
      · exact ⟨(0), by omega, by omega, alloc1_new _ _ _ 0 rfl⟩
      · exact ⟨(0), by omega, by omega, alloc1_new _ _ _ 1 rfl⟩
      · exact ⟨(0), by omega, by omega, alloc1_new _ _ _ 2 rfl⟩
      · exact ⟨(0), by omega, by omega, alloc1_new _ _ _ 3 rfl⟩
      · exact ⟨(1), by omega, by omega, alloc1_new _ _ _ 4 rfl⟩
      · exact ⟨(2), by omega, by omega, alloc1_new _ _ _ 5 rfl⟩
      · exact ⟨(3), by omega, by omega, alloc1_new _ _ _ 6 rfl⟩
      · exact ⟨(4), by omega, by omega, alloc1_new _ _ _ 7 rfl⟩
    · refine Owes.mk _ rfl rfl (fun _ _ h => by cases h) fun u m w' hm ⟨hI, hc⟩ hR => ⟨⟨#[undef, undef, undef, undef, undef, .pointer (some ⟨rb, 0, none⟩), undef, undef, undef, undef, undef, undef, undef, undef, undef, undef, undef, undef, undef, undef, undef, undef, undef, undef, undef, undef, undef, undef, undef, undef, undef, undef, undef, undef, undef, undef, undef, undef], []⟩, rfl, fun d hd => by cases hd; exact (by decide : 17 < 38), ?_⟩
      have hm : m < 15 := hm
      clear hR
      go_wp2
      exact ⟨rfl, _, rfl, rfl, ⟨hI.mono (by omega), hc⟩, fun _ _ h => h⟩
    · refine Owes.mk _ rfl rfl (fun _ _ h => by cases h) fun u m w' hm ⟨hI, hc⟩ hR => ⟨⟨#[undef, undef, undef, undef, undef, undef, undef, undef, undef, undef, undef, undef, undef, undef, undef, undef, undef, u 8, undef, undef, undef, undef, undef, undef, undef, undef, undef, undef, undef, undef, undef, undef, undef, undef, undef, undef, undef, undef], []⟩, rfl, fun d hd => by cases hd; exact (by decide : 18 < 38), ?_⟩
      have hm : m < 15 := hm
      have ea0 : u 8 = _ := hR 8 (by decide)
      clear hR
      rw [ea0]
      go_wp2_with fail
      refine (pick_any rb fq (N + 10 * m) 8 (by omega) (by omega) (by omega) _ hI).mono ?_
      rintro e w2 ⟨x, rfl, lo, hi, g1, g2⟩
      have hs := facts_stable hst g2
      have G1 := Lib.hid (g1.mono (show N + 10 * (m : Int) + 1 ≤ N + 10 * ((m + 1 : Nat) : Int) by omega))
      have G2 := Lib.hid (hc.trans' g2)
      have HS := Lib.hid hs
      clear g1 g2 hs hc hI hst
      go_wp2
      exact ⟨rfl, _, rfl, ⟨x, by omega, by omega, rfl⟩, ⟨G1.out, G2.out⟩, HS.out⟩
    · refine Owes.mk _ rfl rfl (fun _ _ h => by cases h) fun u m w' hm ⟨hI, hc⟩ hR => ⟨⟨#[undef, undef, undef, undef, undef, undef, undef, undef, undef, undef, undef, undef, undef, undef, undef, undef, u 7, undef, u 9, undef, undef, undef, undef, undef, undef, undef, undef, undef, undef, undef, undef, undef, undef, undef, undef, undef, undef, undef], []⟩, rfl, fun d hd => by cases hd; exact (by decide : 19 < 38), ?_⟩
      have hm : m < 15 := hm
      obtain ⟨bs, es, ns, cs⟩ := hR 7 (by decide)
      obtain ⟨xi, li, hi, ei⟩ := hR 9 (by decide)
      obtain ⟨q, rfl⟩ := Int.eq_ofNat_of_zero_le li
      obtain ⟨y, hy1, hy2, hy⟩ := cs q (by omega)
      have qlt : (q : Int) < 8 := by omega
      clear hR
      rw [es, ei]
      clear cs
      go_wp2
      exact ⟨rfl, _, rfl, ⟨_, _, y, rfl, ns, hy1, hy2, by simpa using hy⟩, ⟨hI.mono (by omega), hc⟩, fun _ _ h => h⟩
    · refine Owes.mk _ rfl rfl (fun _ _ h => by cases h) fun u m w' hm ⟨hI, hc⟩ hR => ⟨⟨#[undef, undef, undef, undef, undef, undef, undef, undef, undef, undef, undef, undef, undef, undef, undef, undef, undef, undef, undef, u 10, undef, undef, undef, undef, undef, undef, undef, undef, undef, undef, undef, undef, undef, undef, undef, undef, undef, undef], []⟩, rfl, fun d hd => by cases hd; exact (by decide : 20 < 38), ?_⟩
      have hm : m < 15 := hm
      obtain ⟨bs, is, xs, es, ns, ls, hs, cs⟩ := hR 10 (by decide)
      clear hR
      rw [es]
      go_wp2
      exact ⟨rfl, _, rfl, ⟨xs, by omega, by omega, rfl⟩, ⟨hI.mono (by omega), hc⟩, fun _ _ h => h⟩
    · refine Owes.mk _ rfl rfl (fun _ _ h => by cases h) fun u m w' hm ⟨hI, hc⟩ hR => ⟨⟨#[undef, undef, undef, undef, undef, undef, undef, undef, undef, undef, undef, undef, undef, undef, undef, u 6, undef, undef, undef, undef, u 11, undef, undef, undef, undef, undef, undef, undef, undef, undef, undef, undef, undef, undef, undef, undef, undef, undef], []⟩, rfl, fun d hd => by cases hd; exact (by decide : 21 < 38), ?_⟩
      have hm : m < 15 := hm
      obtain ⟨bs, es, ns, cs⟩ := hR 6 (by decide)
      obtain ⟨xi, li, hi, ei⟩ := hR 11 (by decide)
      obtain ⟨q, rfl⟩ := Int.eq_ofNat_of_zero_le li
      obtain ⟨y, hy1, hy2, hy⟩ := cs q (by omega)
      have qlt : (q : Int) < 5 := by omega
      clear hR
      rw [es, ei]
      clear cs
      go_wp2
      exact ⟨rfl, _, rfl, ⟨_, _, y, rfl, ns, hy1, hy2, by simpa using hy⟩, ⟨hI.mono (by omega), hc⟩, fun _ _ h => h⟩
    · refine Owes.mk _ rfl rfl (fun _ _ h => by cases h) fun u m w' hm ⟨hI, hc⟩ hR => ⟨⟨#[undef, undef, undef, undef, undef, undef, undef, undef, undef, undef, undef, undef, undef, undef, undef, undef, undef, undef, undef, undef, undef, u 12, undef, undef, undef, undef, undef, undef, undef, undef, undef, undef, undef, undef, undef, undef, undef, undef], []⟩, rfl, fun d hd => by cases hd; exact (by decide : 22 < 38), ?_⟩
      have hm : m < 15 := hm
      obtain ⟨bs, is, xs, es, ns, ls, hs, cs⟩ := hR 12 (by decide)
      clear hR
      rw [es]
      go_wp2
      exact ⟨rfl, _, rfl, ⟨xs, by omega, by omega, rfl⟩, ⟨hI.mono (by omega), hc⟩, fun _ _ h => h⟩
    · refine Owes.mk _ rfl rfl (fun _ _ h => by cases h) fun u m w' hm ⟨hI, hc⟩ hR => ⟨⟨#[undef, undef, undef, undef, undef, undef, undef, undef, undef, undef, undef, undef, undef, undef, undef, undef, undef, undef, undef, undef, undef, undef, u 13, undef, undef, undef, undef, undef, undef, undef, undef, undef, undef, undef, undef, undef, undef, undef], []⟩, rfl, fun d hd => by cases hd; exact (by decide : 6 < 38), ?_⟩
      have hm : m < 15 := hm
      go_wp2
      exact ⟨rfl, _, rfl, hR 13 (by decide), ⟨hI.mono (by omega), hc⟩, fun _ _ h => h⟩
  case hend =>
    intro u w' ⟨hI, hc⟩ hR
    simp only [setAll, List.set_cons_zero, List.set_cons_succ]
    obtain ⟨a, _, _, e14⟩ := hR 14 (by decide)
    obtain ⟨N, m0, m1, hI⟩ : ∃ M : Int, 0 ≤ M ∧ M ≤ 150 ∧ RdAt w' rb fq M := ⟨_, by omega, by omega, hI⟩
    obtain ⟨w2, rfl⟩ : ∃ w2, w2 = w' := ⟨_, rfl⟩
    rw [e14]
    have H1 := Lib.hid hI
    have B1 := Lib.hid ((B0.out.chg [rb]).trans' hc)
    clear hI hc hst hR e14 B0 H0
    go_wp2_with fail
    have hst : ∀ F, F ∈ [FEq (.int .i64 a), FEq (.pointer (some ⟨rb, 0, none⟩)), FInt (0) (255), FInt (0) (65280), FEq (.pointer (some ⟨rb, 0, none⟩)), FInt (0) (255), FInt (0) (65535), FSl [rb] 6 (-1) (4), FSl [rb] 8 (0) (5), FEq (.pointer (some ⟨rb, 0, none⟩)), FInt (0) (7), FPtr [rb] (0) (5), FInt (0) (5), FPtr [rb] (-1) (4), FInt (-1) (4), FEq (.int .i64 a), FInt (0) (65535), FInt (-1) (4)] → Stable [rb] F := by
      simp only [List.forall_mem_cons]
      exact ⟨stEq _ _, stEq _ _, stInt _ _ _, stInt _ _ _, stEq _ _, stInt _ _ _, stInt _ _ _, stSl _ _ _ _, stSl _ _ _ _, stEq _ _, stInt _ _ _, stPtr _ _ _, stInt _ _ _, stPtr _ _ _, stInt _ _ _, stEq _ _, stInt _ _ _, stInt _ _ _, fun _ h => by simp at h⟩
    refine wp_region_rule (by kernel_rfl) (fun i => ([[], [], [1], [1, 2], [], [1, 2, 4], [1, 2, 3, 4, 5], [], [], [], [1, 2, 4, 5, 9], [1, 2, 4, 5, 8, 9, 10], [1, 2, 4, 5, 8, 9, 10, 11], [1, 2, 4, 5, 7, 8, 9, 10, 11, 12], [1, 2, 4, 5, 7, 8, 9, 10, 11, 12, 13], [0, 1, 2, 4, 5, 9, 10], [0, 1, 2, 3, 4, 5, 6, 9, 10, 15], [0, 1, 2, 3, 4, 5, 6, 7, 8, 9, 10, 11, 12, 13, 14, 15, 16]] : List (List Nat)).getD i []) (facts [FEq (.int .i64 a), FEq (.pointer (some ⟨rb, 0, none⟩)), FInt (0) (255), FInt (0) (65280), FEq (.pointer (some ⟨rb, 0, none⟩)), FInt (0) (255), FInt (0) (65535), FSl [rb] 6 (-1) (4), FSl [rb] 8 (0) (5), FEq (.pointer (some ⟨rb, 0, none⟩)), FInt (0) (7), FPtr [rb] (0) (5), FInt (0) (5), FPtr [rb] (-1) (4), FInt (-1) (4), FEq (.int .i64 a), FInt (0) (65535), FInt (-1) (4)]) (fun m w' => RdAt w' rb fq (N + 10 * m) ∧ Chg [rb] w2 w') 38 18 [some 23, some 24, some 25, some 26, some 27, some 28, some 29, some 30, some 31, some 32, some 33, some 34, some 35, some 36, some 37, some 2, some 3, some 4] rfl rfl rfl (by kernel_rfl) ?h0 (all_lt (n := 18) ?hop) ?hend
    case h0 => exact ⟨(H1.out.below (Below.refl _ _).drew).mono (by omega), (Chg.refl _ _).drewN 1⟩
    case hop =>
      refine ⟨⟨⟨⟨⟨⟨⟨⟨⟨⟨⟨⟨⟨⟨⟨⟨⟨⟨trivial, ?_⟩, ?_⟩, ?_⟩, ?_⟩, ?_⟩, ?_⟩, ?_⟩, ?_⟩, ?_⟩, ?_⟩, ?_⟩, ?_⟩, ?_⟩, ?_⟩, ?_⟩, ?_⟩, ?_⟩, ?_⟩
      · refine Owes.mk _ rfl rfl (fun _ _ h => by cases h) fun u m w' hm ⟨hI, hc⟩ hR => ⟨⟨#[undef, undef, undef, undef, undef, undef, .int .i64 a, undef, undef, undef, undef, undef, undef, undef, undef, undef, undef, undef, undef, undef, undef, undef, undef, undef, undef, undef, undef, undef, undef, undef, undef, undef, undef, undef, undef, undef, undef, undef], []⟩, rfl, fun d hd => by cases hd; exact (by decide : 23 < 38), ?_⟩
        have hm : m < 18 := hm
        clear hR
        go_wp2
        exact ⟨rfl, _, rfl, rfl, ⟨hI.mono (by omega), hc⟩, fun _ _ h => h⟩
      · refine Owes.mk _ rfl rfl (fun _ _ h => by cases h) fun u m w' hm ⟨hI, hc⟩ hR => ⟨⟨#[undef, undef, undef, undef, undef, .pointer (some ⟨rb, 0, none⟩), undef, undef, undef, undef, undef, undef, undef, undef, undef, undef, undef, undef, undef, undef, undef, undef, undef, undef, undef, undef, undef, undef, undef, undef, undef, undef, undef, undef, undef, undef, undef, undef], []⟩, rfl, fun d hd => by cases hd; exact (by decide : 24 < 38), ?_⟩
        have hm : m < 18 := hm
        clear hR
        go_wp2
        exact ⟨rfl, _, rfl, rfl, ⟨hI.mono (by omega), hc⟩, fun _ _ h => h⟩
      · refine Owes.mk _ rfl rfl (fun _ _ h => by cases h) fun u m w' hm ⟨hI, hc⟩ hR => ⟨⟨#[undef, undef, undef, undef, undef, undef, undef, undef, undef, undef, undef, undef, undef, undef, undef, undef, undef, undef, undef, undef, undef, undef, undef, undef, u 1, undef, undef, undef, undef, undef, undef, undef, undef, undef, undef, undef, undef, undef], []⟩, rfl, fun d hd => by cases hd; exact (by decide : 25 < 38), ?_⟩
        have hm : m < 18 := hm
        have ea0 : u 1 = _ := hR 1 (by decide)
        clear hR
        rw [ea0]
        go_wp2_with fail
        refine (pick_any rb fq (N + 10 * m) 256 (by omega) (by omega) (by omega) _ hI).mono ?_
        rintro e w2 ⟨x, rfl, lo, hi, g1, g2⟩
        have hs := facts_stable hst g2
        have G1 := Lib.hid (g1.mono (show N + 10 * (m : Int) + 1 ≤ N + 10 * ((m + 1 : Nat) : Int) by omega))
        have G2 := Lib.hid (hc.trans' g2)
        have HS := Lib.hid hs
        clear g1 g2 hs hc hI hst
        go_wp2
        exact ⟨rfl, _, rfl, ⟨x, by omega, by omega, rfl⟩, ⟨G1.out, G2.out⟩, HS.out⟩
      · refine Owes.mk _ rfl rfl (fun _ _ h => by cases h) fun u m w' hm ⟨hI, hc⟩ hR => ⟨⟨#[undef, undef, undef, undef, undef, undef, undef, undef, undef, undef, undef, undef, undef, undef, undef, undef, undef, undef, undef, undef, undef, undef, undef, undef, undef, u 2, undef, undef, undef, undef, undef, undef, undef, undef, undef, undef, undef, undef], []⟩, rfl, fun d hd => by cases hd; exact (by decide : 26 < 38), ?_⟩
        have hm : m < 18 := hm
        obtain ⟨xa, la, ha, ea⟩ := hR 2 (by decide)
        clear hR
        rw [ea]
        go_wp2
        exact ⟨rfl, _, rfl, ⟨_, by omega, by omega, rfl⟩, ⟨hI.mono (by omega), hc⟩, fun _ _ h => h⟩
      · refine Owes.mk _ rfl rfl (fun _ _ h => by cases h) fun u m w' hm ⟨hI, hc⟩ hR => ⟨⟨#[undef, undef, undef, undef, undef, .pointer (some ⟨rb, 0, none⟩), undef, undef, undef, undef, undef, undef, undef, undef, undef, undef, undef, undef, undef, undef, undef, undef, undef, undef, undef, undef, undef, undef, undef, undef, undef, undef, undef, undef, undef, undef, undef, undef], []⟩, rfl, fun d hd => by cases hd; exact (by decide : 27 < 38), ?_⟩
        have hm : m < 18 := hm
        clear hR
        go_wp2
        exact ⟨rfl, _, rfl, rfl, ⟨hI.mono (by omega), hc⟩, fun _ _ h => h⟩
      · refine Owes.mk _ rfl rfl (fun _ _ h => by cases h) fun u m w' hm ⟨hI, hc⟩ hR => ⟨⟨#[undef, undef, undef, undef, undef, undef, undef, undef, undef, undef, undef, undef, undef, undef, undef, undef, undef, undef, undef, undef, undef, undef, undef, undef, undef, undef, undef, u 4, undef, undef, undef, undef, undef, undef, undef, undef, undef, undef], []⟩, rfl, fun d hd => by cases hd; exact (by decide : 28 < 38), ?_⟩
        have hm : m < 18 := hm
        have ea0 : u 4 = _ := hR 4 (by decide)
        clear hR
        rw [ea0]
        go_wp2_with fail
        refine (pick_any rb fq (N + 10 * m) 256 (by omega) (by omega) (by omega) _ hI).mono ?_
        rintro e w2 ⟨x, rfl, lo, hi, g1, g2⟩
        have hs := facts_stable hst g2
        have G1 := Lib.hid (g1.mono (show N + 10 * (m : Int) + 1 ≤ N + 10 * ((m + 1 : Nat) : Int) by omega))
        have G2 := Lib.hid (hc.trans' g2)
        have HS := Lib.hid hs
        clear g1 g2 hs hc hI hst
        go_wp2
        exact ⟨rfl, _, rfl, ⟨x, by omega, by omega, rfl⟩, ⟨G1.out, G2.out⟩, HS.out⟩
      · refine Owes.mk _ rfl rfl (fun _ _ h => by cases h) fun u m w' hm ⟨hI, hc⟩ hR => ⟨⟨#[undef, undef, undef, undef, undef, undef, undef, undef, undef, undef, undef, undef, undef, undef, undef, undef, undef, undef, undef, undef, undef, undef, undef, undef, undef, undef, u 3, undef, u 5, undef, undef, undef, undef, undef, undef, undef, undef, undef], []⟩, rfl, fun d hd => by cases hd; exact (by decide : 29 < 38), ?_⟩
        have hm : m < 18 := hm
        obtain ⟨xa, la, ha, ea⟩ := hR 3 (by decide)
        obtain ⟨xb, lb, hb, eb⟩ := hR 5 (by decide)
        clear hR
        rw [ea, eb]
        go_wp2
        exact ⟨rfl, _, rfl, ⟨_, by omega, by omega, rfl⟩, ⟨hI.mono (by omega), hc⟩, fun _ _ h => h⟩
      · refine Owes.mk _ rfl rfl (fun _ _ h => by cases h) fun u m w' hm ⟨hI, hc⟩ hR => ⟨⟨#[undef, undef, undef, undef, undef, undef, undef, undef, undef, undef, undef, undef, undef, undef, undef, undef, undef, undef, undef, undef, undef, undef, undef, undef, undef, undef, undef, undef, undef, undef, undef, undef, undef, undef, undef, undef, undef, undef], []⟩, rfl, fun d hd => by cases hd; exact (by decide : 30 < 38), ?_⟩
        have hm : m < 18 := hm
        clear hR
        have hlt := hI.lt
        have nb : w'.heap.size ∉ [rb] := by simp; omega
        have HL := Lib.hid hlt
        have HI := Lib.hid hI
        have HC := Lib.hid hc
        clear hI hc hlt
        go_wp2
        have ba : ∀ A : Array Value, Below w'.heap.size w' (w'.alloc (.cells A 3)) := fun A => below_alloc _ _
        refine ⟨rfl, _, rfl, ⟨_, rfl, nb, fun i hi => ?_⟩, ⟨(HI.out.below (ba _)).mono (by omega), HC.out.trans' ((ba _).chg _)⟩, facts_stable hst ((ba _).chg _)⟩
        have hx : i = 0 ∨ i = 1 ∨ i = 2 ∨ i = 3 ∨ i = 4 ∨ i = 5 := by omega
        rcases hx with rfl | rfl | rfl | rfl | rfl | rfl
        · exact ⟨(0), by omega, by omega, alloc1_new _ _ _ 0 rfl⟩
        · exact ⟨(1), by omega, by omega, alloc1_new _ _ _ 1 rfl⟩
        · exact ⟨(2), by omega, by omega, alloc1_new _ _ _ 2 rfl⟩
        · exact ⟨(3), by omega, by omega, alloc1_new _ _ _ 3 rfl⟩
        · exact ⟨(4), by omega, by omega, alloc1_new _ _ _ 4 rfl⟩
        · exact ⟨(-1), by omega, by omega, alloc1_new _ _ _ 5 rfl⟩
      · refine Owes.mk _ rfl rfl (fun _ _ h => by cases h) fun u m w' hm ⟨hI, hc⟩ hR => ⟨⟨#[undef, undef, undef, undef, undef, undef, undef, undef, undef, undef, undef, undef, undef, undef, undef, undef, undef, undef, undef, undef, undef, undef, undef, undef, undef, undef, undef, undef, undef, undef, undef, undef, undef, undef, undef, undef, undef, undef], []⟩, rfl, fun d hd => by cases hd; exact (by decide : 31 < 38), ?_⟩
        have hm : m < 18 := hm
        clear hR
        have hlt := hI.lt
        have nb : w'.heap.size ∉ [rb] := by simp; omega
        have HL := Lib.hid hlt
        have HI := Lib.hid hI
        have HC := Lib.hid hc
        clear hI hc hlt
        go_wp2
        have ba : ∀ A : Array Value, Below w'.heap.size w' (w'.alloc (.cells A 3)) := fun A => below_alloc _ _
        refine ⟨rfl, _, rfl, ⟨_, rfl, nb, fun i hi => ?_⟩, ⟨(HI.out.below (ba _)).mono (by omega), HC.out.trans' ((ba _).chg _)⟩, facts_stable hst ((ba _).chg _)⟩
        have hx : i = 0 ∨ i = 1 ∨ i = 2 ∨ i = 3 ∨ i = 4 ∨ i = 5 ∨ i = 6 ∨ i = 7 := by omega
        rcases hx with rfl | rfl | rfl | rfl | rfl | rfl | rfl | rfl
        · exact ⟨(0), by omega, by omega, alloc1_new _ _ _ 0 rfl⟩
        · exact ⟨(1), by omega, by omega, alloc1_new _ _ _ 1 rfl⟩
        · exact ⟨(2), by omega, by omega, alloc1_new _ _ _ 2 rfl⟩
        · exact ⟨(3), by omega, by omega, alloc1_new _ _ _ 3 rfl⟩
        · exact ⟨(1), by omega, by omega, alloc1_new _ _ _ 4 rfl⟩
        · exact ⟨(2), by omega, by omega, alloc1_new _ _ _ 5 rfl⟩
        · exact ⟨(4), by omega, by omega, alloc1_new _ _ _ 6 rfl⟩
        · exact ⟨(5), by omega, by omega, alloc1_new _ _ _ 7 rfl⟩
      · refine Owes.mk _ rfl rfl (fun _ _ h => by cases h) fun u m w' hm ⟨hI, hc⟩ hR => ⟨⟨#[undef, undef, undef, undef, undef, .pointer (some ⟨rb, 0, none⟩), undef, undef, undef, undef, undef, undef, undef, undef, undef, undef, undef, undef, undef, undef, undef, undef, undef, undef, undef, undef, undef, undef, undef, undef, undef, undef, undef, undef, undef, undef, undef, undef], []⟩, rfl, fun d hd => by cases hd; exact (by decide : 32 < 38), ?_⟩
        have hm : m < 18 := hm
        clear hR
        go_wp2
        exact ⟨rfl, _, rfl, rfl, ⟨hI.mono (by omega), hc⟩, fun _ _ h => h⟩
      · refine Owes.mk _ rfl rfl (fun _ _ h => by cases h) fun u m w' hm ⟨hI, hc⟩ hR => ⟨⟨#[undef, undef, undef, undef, undef, undef, undef, undef, undef, undef, undef, undef, undef, undef, undef, undef, undef, undef, undef, undef, undef, undef, undef, undef, undef, undef, undef, undef, undef, undef, undef, undef, u 9, undef, undef, undef, undef, undef], []⟩, rfl, fun d hd => by cases hd; exact (by decide : 33 < 38), ?_⟩
        have hm : m < 18 := hm
        have ea0 : u 9 = _ := hR 9 (by decide)
        clear hR
        rw [ea0]
        go_wp2_with fail
        refine (pick_any rb fq (N + 10 * m) 8 (by omega) (by omega) (by omega) _ hI).mono ?_
        rintro e w2 ⟨x, rfl, lo, hi, g1, g2⟩
        have hs := facts_stable hst g2
        have G1 := Lib.hid (g1.mono (show N + 10 * (m : Int) + 1 ≤ N + 10 * ((m + 1 : Nat) : Int) by omega))
        have G2 := Lib.hid (hc.trans' g2)
        have HS := Lib.hid hs
        clear g1 g2 hs hc hI hst
        go_wp2
        exact ⟨rfl, _, rfl, ⟨x, by omega, by omega, rfl⟩, ⟨G1.out, G2.out⟩, HS.out⟩
      · refine Owes.mk _ rfl rfl (fun _ _ h => by cases h) fun u m w' hm ⟨hI, hc⟩ hR => ⟨⟨#[undef, undef, undef, undef, undef, undef, undef, undef, undef, undef, undef, undef, undef, undef, undef, undef, undef, undef, undef, undef, undef, undef, undef, undef, undef, undef, undef, undef, undef, undef, undef, u 8, undef, u 10, undef, undef, undef, undef], []⟩, rfl, fun d hd => by cases hd; exact (by decide : 34 < 38), ?_⟩
        have hm : m < 18 := hm
        obtain ⟨bs, es, ns, cs⟩ := hR 8 (by decide)
        obtain ⟨xi, li, hi, ei⟩ := hR 10 (by decide)
        obtain ⟨q, rfl⟩ := Int.eq_ofNat_of_zero_le li
        obtain ⟨y, hy1, hy2, hy⟩ := cs q (by omega)
        have qlt : (q : Int) < 8 := by omega
        clear hR
        rw [es, ei]
        clear cs
        go_wp2
        exact ⟨rfl, _, rfl, ⟨_, _, y, rfl, ns, hy1, hy2, by simpa using hy⟩, ⟨hI.mono (by omega), hc⟩, fun _ _ h => h⟩
      · refine Owes.mk _ rfl rfl (fun _ _ h => by cases h) fun u m w' hm ⟨hI, hc⟩ hR => ⟨⟨#[undef, undef, undef, undef, undef, undef, undef, undef, undef, undef, undef, undef, undef, undef, undef, undef, undef, undef, undef, undef, undef, undef, undef, undef, undef, undef, undef, undef, undef, undef, undef, undef, undef, undef, u 11, undef, undef, undef], []⟩, rfl, fun d hd => by cases hd; exact (by decide : 35 < 38), ?_⟩
        have hm : m < 18 := hm
        obtain ⟨bs, is, xs, es, ns, ls, hs, cs⟩ := hR 11 (by decide)
        clear hR
        rw [es]
        go_wp2
        exact ⟨rfl, _, rfl, ⟨xs, by omega, by omega, rfl⟩, ⟨hI.mono (by omega), hc⟩, fun _ _ h => h⟩
      · refine Owes.mk _ rfl rfl (fun _ _ h => by cases h) fun u m w' hm ⟨hI, hc⟩ hR => ⟨⟨#[undef, undef, undef, undef, undef, undef, undef, undef, undef, undef, undef, undef, undef, undef, undef, undef, undef, undef, undef, undef, undef, undef, undef, undef, undef, undef, undef, undef, undef, undef, u 7, undef, undef, undef, undef, u 12, undef, undef], []⟩, rfl, fun d hd => by cases hd; exact (by decide : 36 < 38), ?_⟩
        have hm : m < 18 := hm
        obtain ⟨bs, es, ns, cs⟩ := hR 7 (by decide)
        obtain ⟨xi, li, hi, ei⟩ := hR 12 (by decide)
        obtain ⟨q, rfl⟩ := Int.eq_ofNat_of_zero_le li
        obtain ⟨y, hy1, hy2, hy⟩ := cs q (by omega)
        have qlt : (q : Int) < 6 := by omega
        clear hR
        rw [es, ei]
        clear cs
        go_wp2
        exact ⟨rfl, _, rfl, ⟨_, _, y, rfl, ns, hy1, hy2, by simpa using hy⟩, ⟨hI.mono (by omega), hc⟩, fun _ _ h => h⟩
      · refine Owes.mk _ rfl rfl (fun _ _ h => by cases h) fun u m w' hm ⟨hI, hc⟩ hR => ⟨⟨#[undef, undef, undef, undef, undef, undef, undef, undef, undef, undef, undef, undef, undef, undef, undef, undef, undef, undef, undef, undef, undef, undef, undef, undef, undef, undef, undef, undef, undef, undef, undef, undef, undef, undef, undef, undef, u 13, undef], []⟩, rfl, fun d hd => by cases hd; exact (by decide : 37 < 38), ?_⟩
        have hm : m < 18 := hm
        obtain ⟨bs, is, xs, es, ns, ls, hs, cs⟩ := hR 13 (by decide)
        clear hR
        rw [es]
        go_wp2
        exact ⟨rfl, _, rfl, ⟨xs, by omega, by omega, rfl⟩, ⟨hI.mono (by omega), hc⟩, fun _ _ h => h⟩
      · refine Owes.mk _ rfl rfl (fun _ _ h => by cases h) fun u m w' hm ⟨hI, hc⟩ hR => ⟨⟨#[undef, undef, undef, undef, undef, undef, undef, undef, undef, undef, undef, undef, undef, undef, undef, undef, undef, undef, undef, undef, undef, undef, undef, u 0, undef, undef, undef, undef, undef, undef, undef, undef, undef, undef, undef, undef, undef, undef], []⟩, rfl, fun d hd => by cases hd; exact (by decide : 2 < 38), ?_⟩
        have hm : m < 18 := hm
        go_wp2
        exact ⟨rfl, _, rfl, hR 0 (by decide), ⟨hI.mono (by omega), hc⟩, fun _ _ h => h⟩
      · refine Owes.mk _ rfl rfl (fun _ _ h => by cases h) fun u m w' hm ⟨hI, hc⟩ hR => ⟨⟨#[undef, undef, undef, undef, undef, undef, undef, undef, undef, undef, undef, undef, undef, undef, undef, undef, undef, undef, undef, undef, undef, undef, undef, undef, undef, undef, undef, undef, undef, u 6, undef, undef, undef, undef, undef, undef, undef, undef], []⟩, rfl, fun d hd => by cases hd; exact (by decide : 3 < 38), ?_⟩
        have hm : m < 18 := hm
        go_wp2
        exact ⟨rfl, _, rfl, hR 6 (by decide), ⟨hI.mono (by omega), hc⟩, fun _ _ h => h⟩
      · refine Owes.mk _ rfl rfl (fun _ _ h => by cases h) fun u m w' hm ⟨hI, hc⟩ hR => ⟨⟨#[undef, undef, undef, undef, undef, undef, undef, undef, undef, undef, undef, undef, undef, undef, undef, undef, undef, undef, undef, undef, undef, undef, undef, undef, undef, undef, undef, undef, undef, undef, undef, undef, undef, undef, undef, undef, undef, u 14], []⟩, rfl, fun d hd => by cases hd; exact (by decide : 4 < 38), ?_⟩
        have hm : m < 18 := hm
        go_wp2
        exact ⟨rfl, _, rfl, hR 14 (by decide), ⟨hI.mono (by omega), hc⟩, fun _ _ h => h⟩
    case hend =>
      intro u w' ⟨hI, hc⟩ hR
      simp only [setAll, List.set_cons_zero, List.set_cons_succ]
      have e15 : _ = _ := hR 15 (by decide)
      obtain ⟨b, _, _, e16⟩ := hR 16 (by decide)
      obtain ⟨c, _, _, e17⟩ := hR 17 (by decide)
      rw [e15, e16, e17]
      have HB := Lib.hid ((B1.out.trans' hc).home (fun b hb => by simp at hb; omega))
      clear hR hI hc hst e15 e16 e17 B1 H1
      go_wp2
      go_ret3
      exact ⟨a, b, c, rfl, HB.out⟩

end Go.Proofs.Ytmnjoogaiokhkaa
