/-
  What DrawAdrBurst draws: some numbers, and a bool; crInts, crIn.
-/
import Derived.Test.YtlamjbcacminmaaProg
import Derived.Test.YtlamjbcacminmaaBase
import Derived.Test.YtlamjbcacminmaaDraw
import Derived.Test.YtlamjbcacminmaaAddr
import Derived.Test.YtlamjbcacminmaaFacts
import Derived.Deep.QuietTactic
import Derived.BigQuiet
namespace Go.Proofs.Ytlamjbcacminmaa
set_option linter.unusedVariables false
set_option linter.unusedSimpArgs false
open Go.RowKit

def DrawAdr2 (w : World) (e : Ending) (w' : World) : Prop := ∃ (a m : Int) (wr : Bool), e = .returned (.tuple #[.int .i64 a, .int .i64 m, .bool wr]) ∧ Below w.heap.size w w' ∧ -1 ≤ a ∧ a ≤ 63 ∧ 1 ≤ m ∧ m ≤ 4

set_option maxHeartbeats 1600000 in
theorem drawAdrBurst_any (v : Value) (l : List Int) (fp : List Nat) (w : World) (g : ByteS w l v fp) :
    Calls Try.prog 20 #[v] w (DrawAdr2 w) := by
  go_enter Try.func20, Try.ntmps20
  go_wp2_with fail
  refine (l20Open_any v l fp w g).mono ?_
  rintro e w1 ⟨rb, fq, rfl, hrb, hfq, h0, b0⟩
  obtain ⟨N, n0, n1⟩ : ∃ N : Int, 0 ≤ N ∧ N ≤ 0 := ⟨0, by omega, by omega⟩
  have H0 := Lib.hid (h0.mono n0)
  have B0 := Lib.hid b0
  clear h0 b0
  go_wp2_with fail
  have hst : ∀ F, F ∈ [FEq (.pointer (some ⟨rb, 0, none⟩)), FInt (0) (63), FEq (.pointer (some ⟨rb, 0, none⟩)), FInt (0) (63), FSl [rb] 3 (-1) (63), FSl [rb] 5 (0) (2), FEq (.pointer (some ⟨rb, 0, none⟩)), FInt (0) (4), FPtr [rb] (0) (2), FInt (0) (2), FPtr [rb] (-1) (63), FInt (-1) (63), FSl [rb] 4 (1) (4), FSl [rb] 6 (0) (3), FEq (.pointer (some ⟨rb, 0, none⟩)), FInt (0) (5), FPtr [rb] (0) (3), FInt (0) (3), FPtr [rb] (1) (4), FInt (1) (4), FEq (.pointer (some ⟨rb, 0, none⟩)), FInt (0) (1), FBool, FInt (-1) (63), FInt (1) (4), FBool] → Stable [rb] F := by
    simp only [List.forall_mem_cons]
    exact ⟨stEq _ _, stInt _ _ _, stEq _ _, stInt _ _ _, stSl _ _ _ _, stSl _ _ _ _, stEq _ _, stInt _ _ _, stPtr _ _ _, stInt _ _ _, stPtr _ _ _, stInt _ _ _, stSl _ _ _ _, stSl _ _ _ _, stEq _ _, stInt _ _ _, stPtr _ _ _, stInt _ _ _, stPtr _ _ _, stInt _ _ _, stEq _ _, stInt _ _ _, stBool _, stInt _ _ _, stInt _ _ _, stBool _, fun _ h => by simp at h⟩
  refine wp_region_rule (by kernel_rfl) (fun i => ([[], [0], [], [0, 1, 2], [0, 1, 2, 3], [], [], [0, 1, 2, 3, 6], [0, 1, 2, 3, 5, 6, 7], [0, 1, 2, 3, 5, 6, 7, 8], [0, 1, 2, 3, 4, 5, 6, 7, 8, 9], [0, 1, 2, 3, 4, 5, 6, 7, 8, 9, 10], [], [], [], [0, 1, 2, 3, 6, 7, 14], [0, 1, 2, 3, 6, 7, 13, 14, 15], [0, 1, 2, 3, 6, 7, 13, 14, 15, 16], [0, 1, 2, 3, 6, 7, 12, 13, 14, 15, 16, 17], [0, 1, 2, 3, 6, 7, 12, 13, 14, 15, 16, 17, 18], [], [0, 1, 2, 3, 6, 7, 14, 15, 20], [0, 1, 2, 3, 6, 7, 14, 15, 20, 21], [0, 1, 2, 3, 4, 5, 6, 7, 8, 9, 10, 11, 14, 15, 20, 21], [0, 1, 2, 3, 4, 5, 6, 7, 8, 9, 10, 11, 12, 13, 14, 15, 16, 17, 18, 19, 20, 21, 23], [0, 1, 2, 3, 4, 5, 6, 7, 8, 9, 10, 11, 12, 13, 14, 15, 16, 17, 18, 19, 20, 21, 22, 23, 24]] : List (List Nat)).getD i []) (facts [FEq (.pointer (some ⟨rb, 0, none⟩)), FInt (0) (63), FEq (.pointer (some ⟨rb, 0, none⟩)), FInt (0) (63), FSl [rb] 3 (-1) (63), FSl [rb] 5 (0) (2), FEq (.pointer (some ⟨rb, 0, none⟩)), FInt (0) (4), FPtr [rb] (0) (2), FInt (0) (2), FPtr [rb] (-1) (63), FInt (-1) (63), FSl [rb] 4 (1) (4), FSl [rb] 6 (0) (3), FEq (.pointer (some ⟨rb, 0, none⟩)), FInt (0) (5), FPtr [rb] (0) (3), FInt (0) (3), FPtr [rb] (1) (4), FInt (1) (4), FEq (.pointer (some ⟨rb, 0, none⟩)), FInt (0) (1), FBool, FInt (-1) (63), FInt (1) (4), FBool]) (fun m w' => RdAt w' rb fq (N + 10 * m) ∧ Chg [rb] w1 w') 31 26 [some 8, some 9, some 10, some 11, some 12, some 13, some 14, some 15, some 16, some 17, some 18, some 19, some 20, some 21, some 22, some 23, some 24, some 25, some 26, some 27, some 28, some 29, some 30, some 2, some 3, some 4] rfl rfl rfl (by kernel_rfl) ?h0 (all_lt (n := 26) ?hop) ?hend
  case h0 => exact ⟨(H0.out.below (Below.refl _ _).drew).mono (by omega), (Chg.refl _ _).drewN 1⟩
  case hop =>
    refine ⟨⟨⟨⟨⟨⟨⟨⟨⟨⟨⟨⟨⟨⟨⟨⟨⟨⟨⟨⟨⟨⟨⟨⟨⟨⟨trivial, ?_⟩, ?_⟩, ?_⟩, ?_⟩, ?_⟩, ?_⟩, ?_⟩, ?_⟩, ?_⟩, ?_⟩, ?_⟩, ?_⟩, ?_⟩, ?_⟩, ?_⟩, ?_⟩, ?_⟩, ?_⟩, ?_⟩, ?_⟩, ?_⟩, ?_⟩, ?_⟩, ?_⟩, ?_⟩, ?_⟩
    · refine Owes.mk _ rfl rfl (fun _ _ h => by cases h) fun u m w' hm ⟨hI, hc⟩ hR => ⟨⟨#[undef, undef, undef, undef, undef, .pointer (some ⟨rb, 0, none⟩), undef, undef, undef, undef, undef, undef, undef, undef, undef, undef, undef, undef, undef, undef, undef, undef, undef, undef, undef, undef, undef, undef, undef, undef, undef], []⟩, rfl, fun d hd => by cases hd; exact (by decide : 8 < 31), ?_⟩
      have hm : m < 26 := hm
      clear hR
      go_wp2
      exact ⟨rfl, _, rfl, rfl, ⟨hI.mono (by omega), hc⟩, fun _ _ h => h⟩
    · refine Owes.mk _ rfl rfl (fun _ _ h => by cases h) fun u m w' hm ⟨hI, hc⟩ hR => ⟨⟨#[undef, undef, undef, undef, undef, undef, undef, undef, u 0, undef, undef, undef, undef, undef, undef, undef, undef, undef, undef, undef, undef, undef, undef, undef, undef, undef, undef, undef, undef, undef, undef], []⟩, rfl, fun d hd => by cases hd; exact (by decide : 9 < 31), ?_⟩
      have hm : m < 26 := hm
      have ea0 : u 0 = _ := hR 0 (by decide)
      clear hR
      rw [ea0]
      go_wp2_with fail
      refine (l20Addr_any rb fq (N + 10 * m) (by omega) _ hI).mono ?_
      rintro e w2 ⟨⟨x, lo, hi, rfl⟩, g1, g2⟩
      have hs := facts_stable hst g2
      have G1 := Lib.hid (g1.mono (show _ ≤ N + 10 * ((m + 1 : Nat) : Int) by omega))
      have G2 := Lib.hid (hc.trans' g2)
      have HS := Lib.hid hs
      clear g1 g2 hs hc hI hst
      go_wp2
      exact ⟨rfl, _, rfl, ⟨x, by omega, by omega, rfl⟩, ⟨G1.out, G2.out⟩, HS.out⟩
    · refine Owes.mk _ rfl rfl (fun _ _ h => by cases h) fun u m w' hm ⟨hI, hc⟩ hR => ⟨⟨#[undef, undef, undef, undef, undef, .pointer (some ⟨rb, 0, none⟩), undef, undef, undef, undef, undef, undef, undef, undef, undef, undef, undef, undef, undef, undef, undef, undef, undef, undef, undef, undef, undef, undef, undef, undef, undef], []⟩, rfl, fun d hd => by cases hd; exact (by decide : 10 < 31), ?_⟩
      have hm : m < 26 := hm
      clear hR
      go_wp2
      exact ⟨rfl, _, rfl, rfl, ⟨hI.mono (by omega), hc⟩, fun _ _ h => h⟩
    · refine Owes.mk _ rfl rfl (fun _ _ h => by cases h) fun u m w' hm ⟨hI, hc⟩ hR => ⟨⟨#[undef, undef, undef, undef, undef, undef, undef, undef, undef, undef, u 2, undef, undef, undef, undef, undef, undef, undef, undef, undef, undef, undef, undef, undef, undef, undef, undef, undef, undef, undef, undef], []⟩, rfl, fun d hd => by cases hd; exact (by decide : 11 < 31), ?_⟩
      have hm : m < 26 := hm
      have ea0 : u 2 = _ := hR 2 (by decide)
      clear hR
      rw [ea0]
      go_wp2_with fail
      refine (pick_any rb fq (N + 10 * m) 64 (by omega) (by omega) (by omega) _ hI).mono ?_
      rintro e w2 ⟨x, rfl, lo, hi, g1, g2⟩
      have hs := facts_stable hst g2
      have G1 := Lib.hid (g1.mono (show N + 10 * (m : Int) + 1 ≤ N + 10 * ((m + 1 : Nat) : Int) by omega))
      have G2 := Lib.hid (hc.trans' g2)
      have HS := Lib.hid hs
      clear g1 g2 hs hc hI hst
      go_wp2
      exact ⟨rfl, _, rfl, ⟨x, by omega, by omega, rfl⟩, ⟨G1.out, G2.out⟩, HS.out⟩
    · refine Owes.mk _ rfl rfl (fun _ _ h => by cases h) fun u m w' hm ⟨hI, hc⟩ hR => ⟨⟨#[undef, undef, undef, undef, undef, undef, undef, undef, undef, u 1, undef, u 3, undef, undef, undef, undef, undef, undef, undef, undef, undef, undef, undef, undef, undef, undef, undef, undef, undef, undef, undef], []⟩, rfl, fun d hd => by cases hd; exact (by decide : 12 < 31), ?_⟩
      have hm : m < 26 := hm
      obtain ⟨xp0, lp0, hp0, ep0⟩ := hR 1 (by decide)
      obtain ⟨xp1, lp1, hp1, ep1⟩ := hR 3 (by decide)
      clear hR
      rw [ep0, ep1]
      have hlt := hI.lt
      have nb : w'.heap.size ∉ [rb] := by simp; omega
      have HL := Lib.hid hlt
      have HI := Lib.hid hI
      have HC := Lib.hid hc
      clear hI hc hlt
      go_wp2
      have ba : ∀ A : Array Value, Below w'.heap.size w' (w'.alloc (.cells A 3)) := fun A => below_alloc _ _
      refine ⟨rfl, _, rfl, ⟨_, rfl, nb, fun i hi => ?_⟩, ⟨(HI.out.below (ba _)).mono (by omega), HC.out.trans' ((ba _).chg _)⟩, facts_stable hst ((ba _).chg _)⟩
      have hx : i = 0 ∨ i = 1 ∨ i = 2 := by omega
      rcases hx with rfl | rfl | rfl
      · exact ⟨xp0, by omega, by omega, alloc1_new _ _ _ 0 rfl⟩
      · exact ⟨xp1, by omega, by omega, alloc1_new _ _ _ 1 rfl⟩
      · exact ⟨(-1), by omega, by omega, alloc1_new _ _ _ 2 rfl⟩
    · refine Owes.mk _ rfl rfl (fun _ _ h => by cases h) fun u m w' hm ⟨hI, hc⟩ hR => ⟨⟨#[undef, undef, undef, undef, undef, undef, undef, undef, undef, undef, undef, undef, undef, undef, undef, undef, undef, undef, undef, undef, undef, undef, undef, undef, undef, undef, undef, undef, undef, undef, undef], []⟩, rfl, fun d hd => by cases hd; exact (by decide : 13 < 31), ?_⟩
      have hm : m < 26 := hm
      clear hR
      have hlt := hI.lt
      have nb : w'.heap.size ∉ [rb] := by simp; omega
      have HL := Lib.hid hlt
      have HI := Lib.hid hI
      have HC := Lib.hid hc
      clear hI hc hlt
      go_wp2
      have ba : ∀ A : Array Value, Below w'.heap.size w' (w'.alloc (.cells A 3)) := fun A => below_alloc _ _
      refine ⟨rfl, _, rfl, ⟨_, rfl, nb, fun i hi => ?_⟩, ⟨(HI.out.below (ba _)).mono (by omega), HC.out.trans' ((ba _).chg _)⟩, facts_stable hst ((ba _).chg _)⟩
      have hx : i = 0 ∨ i = 1 ∨ i = 2 ∨ i = 3 ∨ i = 4 := by omega
      rcases hx with rfl | rfl | rfl | rfl | rfl
      · exact ⟨(0), by omega, by omega, alloc1_new _ _ _ 0 rfl⟩
      · exact ⟨(0), by omega, by omega, alloc1_new _ _ _ 1 rfl⟩
      · exact ⟨(1), by omega, by omega, alloc1_new _ _ _ 2 rfl⟩
      · exact ⟨(1), by omega, by omega, alloc1_new _ _ _ 3 rfl⟩
      · exact ⟨(2), by omega, by omega, alloc1_new _ _ _ 4 rfl⟩
    · refine Owes.mk _ rfl rfl (fun _ _ h => by cases h) fun u m w' hm ⟨hI, hc⟩ hR => ⟨⟨#[undef, undef, undef, undef, undef, .pointer (some ⟨rb, 0, none⟩), undef, undef, undef, undef, undef, undef, undef, undef, undef, undef, undef, undef, undef, undef, undef, undef, undef, undef, undef, undef, undef, undef, undef, undef, undef], []⟩, rfl, fun d hd => by cases hd; exact (by decide : 14 < 31), ?_⟩
      have hm : m < 26 := hm
      clear hR
      go_wp2
      exact ⟨rfl, _, rfl, rfl, ⟨hI.mono (by omega), hc⟩, fun _ _ h => h⟩
    · refine Owes.mk _ rfl rfl (fun _ _ h => by cases h) fun u m w' hm ⟨hI, hc⟩ hR => ⟨⟨#[undef, undef, undef, undef, undef, undef, undef, undef, undef, undef, undef, undef, undef, undef, u 6, undef, undef, undef, undef, undef, undef, undef, undef, undef, undef, undef, undef, undef, undef, undef, undef], []⟩, rfl, fun d hd => by cases hd; exact (by decide : 15 < 31), ?_⟩
      have hm : m < 26 := hm
      have ea0 : u 6 = _ := hR 6 (by decide)
      clear hR
      rw [ea0]
      go_wp2_with fail
      refine (pick_any rb fq (N + 10 * m) 5 (by omega) (by omega) (by omega) _ hI).mono ?_
      rintro e w2 ⟨x, rfl, lo, hi, g1, g2⟩
      have hs := facts_stable hst g2
      have G1 := Lib.hid (g1.mono (show N + 10 * (m : Int) + 1 ≤ N + 10 * ((m + 1 : Nat) : Int) by omega))
      have G2 := Lib.hid (hc.trans' g2)
      have HS := Lib.hid hs
      clear g1 g2 hs hc hI hst
      go_wp2
      exact ⟨rfl, _, rfl, ⟨x, by omega, by omega, rfl⟩, ⟨G1.out, G2.out⟩, HS.out⟩
    · refine Owes.mk _ rfl rfl (fun _ _ h => by cases h) fun u m w' hm ⟨hI, hc⟩ hR => ⟨⟨#[undef, undef, undef, undef, undef, undef, undef, undef, undef, undef, undef, undef, undef, u 5, undef, u 7, undef, undef, undef, undef, undef, undef, undef, undef, undef, undef, undef, undef, undef, undef, undef], []⟩, rfl, fun d hd => by cases hd; exact (by decide : 16 < 31), ?_⟩
      have hm : m < 26 := hm
      obtain ⟨bs, es, ns, cs⟩ := hR 5 (by decide)
      obtain ⟨xi, li, hi, ei⟩ := hR 7 (by decide)
      obtain ⟨q, rfl⟩ := Int.eq_ofNat_of_zero_le li
      obtain ⟨y, hy1, hy2, hy⟩ := cs q (by omega)
      have qlt : (q : Int) < 5 := by omega
      clear hR
      rw [es, ei]
      clear cs
      go_wp2
      exact ⟨rfl, _, rfl, ⟨_, _, y, rfl, ns, hy1, hy2, by simpa using hy⟩, ⟨hI.mono (by omega), hc⟩, fun _ _ h => h⟩
    · refine Owes.mk _ rfl rfl (fun _ _ h => by cases h) fun u m w' hm ⟨hI, hc⟩ hR => ⟨⟨#[undef, undef, undef, undef, undef, undef, undef, undef, undef, undef, undef, undef, undef, undef, undef, undef, u 8, undef, undef, undef, undef, undef, undef, undef, undef, undef, undef, undef, undef, undef, undef], []⟩, rfl, fun d hd => by cases hd; exact (by decide : 17 < 31), ?_⟩
      have hm : m < 26 := hm
      obtain ⟨bs, is, xs, es, ns, ls, hs, cs⟩ := hR 8 (by decide)
      clear hR
      rw [es]
      go_wp2
      exact ⟨rfl, _, rfl, ⟨xs, by omega, by omega, rfl⟩, ⟨hI.mono (by omega), hc⟩, fun _ _ h => h⟩
    · refine Owes.mk _ rfl rfl (fun _ _ h => by cases h) fun u m w' hm ⟨hI, hc⟩ hR => ⟨⟨#[undef, undef, undef, undef, undef, undef, undef, undef, undef, undef, undef, undef, u 4, undef, undef, undef, undef, u 9, undef, undef, undef, undef, undef, undef, undef, undef, undef, undef, undef, undef, undef], []⟩, rfl, fun d hd => by cases hd; exact (by decide : 18 < 31), ?_⟩
      have hm : m < 26 := hm
      obtain ⟨bs, es, ns, cs⟩ := hR 4 (by decide)
      obtain ⟨xi, li, hi, ei⟩ := hR 9 (by decide)
      obtain ⟨q, rfl⟩ := Int.eq_ofNat_of_zero_le li
      obtain ⟨y, hy1, hy2, hy⟩ := cs q (by omega)
      have qlt : (q : Int) < 3 := by omega
      clear hR
      rw [es, ei]
      clear cs
      go_wp2
      exact ⟨rfl, _, rfl, ⟨_, _, y, rfl, ns, hy1, hy2, by simpa using hy⟩, ⟨hI.mono (by omega), hc⟩, fun _ _ h => h⟩
    · refine Owes.mk _ rfl rfl (fun _ _ h => by cases h) fun u m w' hm ⟨hI, hc⟩ hR => ⟨⟨#[undef, undef, undef, undef, undef, undef, undef, undef, undef, undef, undef, undef, undef, undef, undef, undef, undef, undef, u 10, undef, undef, undef, undef, undef, undef, undef, undef, undef, undef, undef, undef], []⟩, rfl, fun d hd => by cases hd; exact (by decide : 19 < 31), ?_⟩
      have hm : m < 26 := hm
      obtain ⟨bs, is, xs, es, ns, ls, hs, cs⟩ := hR 10 (by decide)
      clear hR
      rw [es]
      go_wp2
      exact ⟨rfl, _, rfl, ⟨xs, by omega, by omega, rfl⟩, ⟨hI.mono (by omega), hc⟩, fun _ _ h => h⟩
    · refine Owes.mk _ rfl rfl (fun _ _ h => by cases h) fun u m w' hm ⟨hI, hc⟩ hR => ⟨⟨#[undef, undef, undef, undef, undef, undef, undef, undef, undef, undef, undef, undef, undef, undef, undef, undef, undef, undef, undef, undef, undef, undef, undef, undef, undef, undef, undef, undef, undef, undef, undef], []⟩, rfl, fun d hd => by cases hd; exact (by decide : 20 < 31), ?_⟩
      have hm : m < 26 := hm
      clear hR
      have hlt := hI.lt
      have nb : w'.heap.size ∉ [rb] := by simp; omega
      have HL := Lib.hid hlt
      have HI := Lib.hid hI
      have HC := Lib.hid hc
      clear hI hc hlt
      go_wp2
      have ba : ∀ A : Array Value, Below w'.heap.size w' (w'.alloc (.cells A 3)) := fun A => below_alloc _ _
      refine ⟨rfl, _, rfl, ⟨_, rfl, nb, fun i hi => ?_⟩, ⟨(HI.out.below (ba _)).mono (by omega), HC.out.trans' ((ba _).chg _)⟩, facts_stable hst ((ba _).chg _)⟩
      have hx : i = 0 ∨ i = 1 ∨ i = 2 ∨ i = 3 := by omega
      rcases hx with rfl | rfl | rfl | rfl
      · exact ⟨(1), by omega, by omega, alloc1_new _ _ _ 0 rfl⟩
      · exact ⟨(2), by omega, by omega, alloc1_new _ _ _ 1 rfl⟩
      · exact ⟨(4), by omega, by omega, alloc1_new _ _ _ 2 rfl⟩
      · exact ⟨(3), by omega, by omega, alloc1_new _ _ _ 3 rfl⟩
    · refine Owes.mk _ rfl rfl (fun _ _ h => by cases h) fun u m w' hm ⟨hI, hc⟩ hR => ⟨⟨#[undef, undef, undef, undef, undef, undef, undef, undef, undef, undef, undef, undef, undef, undef, undef, undef, undef, undef, undef, undef, undef, undef, undef, undef, undef, undef, undef, undef, undef, undef, undef], []⟩, rfl, fun d hd => by cases hd; exact (by decide : 21 < 31), ?_⟩
      have hm : m < 26 := hm
      clear hR
      have hlt := hI.lt
      have nb : w'.heap.size ∉ [rb] := by simp; omega
      have HL := Lib.hid hlt
      have HI := Lib.hid hI
      have HC := Lib.hid hc
      clear hI hc hlt
      go_wp2
      have ba : ∀ A : Array Value, Below w'.heap.size w' (w'.alloc (.cells A 3)) := fun A => below_alloc _ _
      refine ⟨rfl, _, rfl, ⟨_, rfl, nb, fun i hi => ?_⟩, ⟨(HI.out.below (ba _)).mono (by omega), HC.out.trans' ((ba _).chg _)⟩, facts_stable hst ((ba _).chg _)⟩
      have hx : i = 0 ∨ i = 1 ∨ i = 2 ∨ i = 3 ∨ i = 4 ∨ i = 5 := by omega
      rcases hx with rfl | rfl | rfl | rfl | rfl | rfl
      · exact ⟨(0), by omega, by omega, alloc1_new _ _ _ 0 rfl⟩
      · exact ⟨(1), by omega, by omega, alloc1_new _ _ _ 1 rfl⟩
      · exact ⟨(1), by omega, by omega, alloc1_new _ _ _ 2 rfl⟩
      · exact ⟨(2), by omega, by omega, alloc1_new _ _ _ 3 rfl⟩
      · exact ⟨(2), by omega, by omega, alloc1_new _ _ _ 4 rfl⟩
      · exact ⟨(3), by omega, by omega, alloc1_new _ _ _ 5 rfl⟩
    · refine Owes.mk _ rfl rfl (fun _ _ h => by cases h) fun u m w' hm ⟨hI, hc⟩ hR => ⟨⟨#[undef, undef, undef, undef, undef, .pointer (some ⟨rb, 0, none⟩), undef, undef, undef, undef, undef, undef, undef, undef, undef, undef, undef, undef, undef, undef, undef, undef, undef, undef, undef, undef, undef, undef, undef, undef, undef], []⟩, rfl, fun d hd => by cases hd; exact (by decide : 22 < 31), ?_⟩
      have hm : m < 26 := hm
      clear hR
      go_wp2
      exact ⟨rfl, _, rfl, rfl, ⟨hI.mono (by omega), hc⟩, fun _ _ h => h⟩
    · refine Owes.mk _ rfl rfl (fun _ _ h => by cases h) fun u m w' hm ⟨hI, hc⟩ hR => ⟨⟨#[undef, undef, undef, undef, undef, undef, undef, undef, undef, undef, undef, undef, undef, undef, undef, undef, undef, undef, undef, undef, undef, undef, u 14, undef, undef, undef, undef, undef, undef, undef, undef], []⟩, rfl, fun d hd => by cases hd; exact (by decide : 23 < 31), ?_⟩
      have hm : m < 26 := hm
      have ea0 : u 14 = _ := hR 14 (by decide)
      clear hR
      rw [ea0]
      go_wp2_with fail
      refine (pick_any rb fq (N + 10 * m) 6 (by omega) (by omega) (by omega) _ hI).mono ?_
      rintro e w2 ⟨x, rfl, lo, hi, g1, g2⟩
      have hs := facts_stable hst g2
      have G1 := Lib.hid (g1.mono (show N + 10 * (m : Int) + 1 ≤ N + 10 * ((m + 1 : Nat) : Int) by omega))
      have G2 := Lib.hid (hc.trans' g2)
      have HS := Lib.hid hs
      clear g1 g2 hs hc hI hst
      go_wp2
      exact ⟨rfl, _, rfl, ⟨x, by omega, by omega, rfl⟩, ⟨G1.out, G2.out⟩, HS.out⟩
    · refine Owes.mk _ rfl rfl (fun _ _ h => by cases h) fun u m w' hm ⟨hI, hc⟩ hR => ⟨⟨#[undef, undef, undef, undef, undef, undef, undef, undef, undef, undef, undef, undef, undef, undef, undef, undef, undef, undef, undef, undef, undef, u 13, undef, u 15, undef, undef, undef, undef, undef, undef, undef], []⟩, rfl, fun d hd => by cases hd; exact (by decide : 24 < 31), ?_⟩
      have hm : m < 26 := hm
      obtain ⟨bs, es, ns, cs⟩ := hR 13 (by decide)
      obtain ⟨xi, li, hi, ei⟩ := hR 15 (by decide)
      obtain ⟨q, rfl⟩ := Int.eq_ofNat_of_zero_le li
      obtain ⟨y, hy1, hy2, hy⟩ := cs q (by omega)
      have qlt : (q : Int) < 6 := by omega
      clear hR
      rw [es, ei]
      clear cs
      go_wp2
      exact ⟨rfl, _, rfl, ⟨_, _, y, rfl, ns, hy1, hy2, by simpa using hy⟩, ⟨hI.mono (by omega), hc⟩, fun _ _ h => h⟩
    · refine Owes.mk _ rfl rfl (fun _ _ h => by cases h) fun u m w' hm ⟨hI, hc⟩ hR => ⟨⟨#[undef, undef, undef, undef, undef, undef, undef, undef, undef, undef, undef, undef, undef, undef, undef, undef, undef, undef, undef, undef, undef, undef, undef, undef, u 16, undef, undef, undef, undef, undef, undef], []⟩, rfl, fun d hd => by cases hd; exact (by decide : 25 < 31), ?_⟩
      have hm : m < 26 := hm
      obtain ⟨bs, is, xs, es, ns, ls, hs, cs⟩ := hR 16 (by decide)
      clear hR
      rw [es]
      go_wp2
      exact ⟨rfl, _, rfl, ⟨xs, by omega, by omega, rfl⟩, ⟨hI.mono (by omega), hc⟩, fun _ _ h => h⟩
    · refine Owes.mk _ rfl rfl (fun _ _ h => by cases h) fun u m w' hm ⟨hI, hc⟩ hR => ⟨⟨#[undef, undef, undef, undef, undef, undef, undef, undef, undef, undef, undef, undef, undef, undef, undef, undef, undef, undef, undef, undef, u 12, undef, undef, undef, undef, u 17, undef, undef, undef, undef, undef], []⟩, rfl, fun d hd => by cases hd; exact (by decide : 26 < 31), ?_⟩
      have hm : m < 26 := hm
      obtain ⟨bs, es, ns, cs⟩ := hR 12 (by decide)
      obtain ⟨xi, li, hi, ei⟩ := hR 17 (by decide)
      obtain ⟨q, rfl⟩ := Int.eq_ofNat_of_zero_le li
      obtain ⟨y, hy1, hy2, hy⟩ := cs q (by omega)
      have qlt : (q : Int) < 4 := by omega
      clear hR
      rw [es, ei]
      clear cs
      go_wp2
      exact ⟨rfl, _, rfl, ⟨_, _, y, rfl, ns, hy1, hy2, by simpa using hy⟩, ⟨hI.mono (by omega), hc⟩, fun _ _ h => h⟩
    · refine Owes.mk _ rfl rfl (fun _ _ h => by cases h) fun u m w' hm ⟨hI, hc⟩ hR => ⟨⟨#[undef, undef, undef, undef, undef, undef, undef, undef, undef, undef, undef, undef, undef, undef, undef, undef, undef, undef, undef, undef, undef, undef, undef, undef, undef, undef, u 18, undef, undef, undef, undef], []⟩, rfl, fun d hd => by cases hd; exact (by decide : 27 < 31), ?_⟩
      have hm : m < 26 := hm
      obtain ⟨bs, is, xs, es, ns, ls, hs, cs⟩ := hR 18 (by decide)
      clear hR
      rw [es]
      go_wp2
      exact ⟨rfl, _, rfl, ⟨xs, by omega, by omega, rfl⟩, ⟨hI.mono (by omega), hc⟩, fun _ _ h => h⟩
    · refine Owes.mk _ rfl rfl (fun _ _ h => by cases h) fun u m w' hm ⟨hI, hc⟩ hR => ⟨⟨#[undef, undef, undef, undef, undef, .pointer (some ⟨rb, 0, none⟩), undef, undef, undef, undef, undef, undef, undef, undef, undef, undef, undef, undef, undef, undef, undef, undef, undef, undef, undef, undef, undef, undef, undef, undef, undef], []⟩, rfl, fun d hd => by cases hd; exact (by decide : 28 < 31), ?_⟩
      have hm : m < 26 := hm
      clear hR
      go_wp2
      exact ⟨rfl, _, rfl, rfl, ⟨hI.mono (by omega), hc⟩, fun _ _ h => h⟩
    · refine Owes.mk _ rfl rfl (fun _ _ h => by cases h) fun u m w' hm ⟨hI, hc⟩ hR => ⟨⟨#[undef, undef, undef, undef, undef, undef, undef, undef, undef, undef, undef, undef, undef, undef, undef, undef, undef, undef, undef, undef, undef, undef, undef, undef, undef, undef, undef, undef, u 20, undef, undef], []⟩, rfl, fun d hd => by cases hd; exact (by decide : 29 < 31), ?_⟩
      have hm : m < 26 := hm
      have ea0 : u 20 = _ := hR 20 (by decide)
      clear hR
      rw [ea0]
      go_wp2_with fail
      refine (pick_any rb fq (N + 10 * m) 2 (by omega) (by omega) (by omega) _ hI).mono ?_
      rintro e w2 ⟨x, rfl, lo, hi, g1, g2⟩
      have hs := facts_stable hst g2
      have G1 := Lib.hid (g1.mono (show N + 10 * (m : Int) + 1 ≤ N + 10 * ((m + 1 : Nat) : Int) by omega))
      have G2 := Lib.hid (hc.trans' g2)
      have HS := Lib.hid hs
      clear g1 g2 hs hc hI hst
      go_wp2
      exact ⟨rfl, _, rfl, ⟨x, by omega, by omega, rfl⟩, ⟨G1.out, G2.out⟩, HS.out⟩
    · refine Owes.mk _ rfl rfl (fun _ _ h => by cases h) fun u m w' hm ⟨hI, hc⟩ hR => ⟨⟨#[undef, undef, undef, undef, undef, undef, undef, undef, undef, undef, undef, undef, undef, undef, undef, undef, undef, undef, undef, undef, undef, undef, undef, undef, undef, undef, undef, undef, undef, u 21, undef], []⟩, rfl, fun d hd => by cases hd; exact (by decide : 30 < 31), ?_⟩
      have hm : m < 26 := hm
      obtain ⟨xa, la, ha, ea⟩ := hR 21 (by decide)
      clear hR
      rw [ea]
      go_wp2
      exact ⟨rfl, _, rfl, ⟨_, rfl⟩, ⟨hI.mono (by omega), hc⟩, fun _ _ h => h⟩
    · refine Owes.mk _ rfl rfl (fun _ _ h => by cases h) fun u m w' hm ⟨hI, hc⟩ hR => ⟨⟨#[undef, undef, undef, undef, undef, undef, undef, undef, undef, undef, undef, undef, undef, undef, undef, undef, undef, undef, undef, u 11, undef, undef, undef, undef, undef, undef, undef, undef, undef, undef, undef], []⟩, rfl, fun d hd => by cases hd; exact (by decide : 2 < 31), ?_⟩
      have hm : m < 26 := hm
      go_wp2
      exact ⟨rfl, _, rfl, hR 11 (by decide), ⟨hI.mono (by omega), hc⟩, fun _ _ h => h⟩
    · refine Owes.mk _ rfl rfl (fun _ _ h => by cases h) fun u m w' hm ⟨hI, hc⟩ hR => ⟨⟨#[undef, undef, undef, undef, undef, undef, undef, undef, undef, undef, undef, undef, undef, undef, undef, undef, undef, undef, undef, undef, undef, undef, undef, undef, undef, undef, undef, u 19, undef, undef, undef], []⟩, rfl, fun d hd => by cases hd; exact (by decide : 3 < 31), ?_⟩
      have hm : m < 26 := hm
      go_wp2
      exact ⟨rfl, _, rfl, hR 19 (by decide), ⟨hI.mono (by omega), hc⟩, fun _ _ h => h⟩
    · refine Owes.mk _ rfl rfl (fun _ _ h => by cases h) fun u m w' hm ⟨hI, hc⟩ hR => ⟨⟨#[undef, undef, undef, undef, undef, undef, undef, undef, undef, undef, undef, undef, undef, undef, undef, undef, undef, undef, undef, undef, undef, undef, undef, undef, undef, undef, undef, undef, undef, undef, u 22], []⟩, rfl, fun d hd => by cases hd; exact (by decide : 4 < 31), ?_⟩
      have hm : m < 26 := hm
      go_wp2
      exact ⟨rfl, _, rfl, hR 22 (by decide), ⟨hI.mono (by omega), hc⟩, fun _ _ h => h⟩
  case hend =>
    intro u w' ⟨hI, hc⟩ hR
    simp only [setAll, List.set_cons_zero, List.set_cons_succ]
    obtain ⟨a, a0, a1, e23⟩ := hR 23 (by decide)
    obtain ⟨m, m0, m1, e24⟩ := hR 24 (by decide)
    obtain ⟨wr, e25⟩ := hR 25 (by decide)
    rw [e23, e24, e25]
    have HB := Lib.hid (((B0.out.chg [rb]).trans' hc).home (fun b hb => by simp at hb; omega))
    clear hR hI hc hst e23 e24 e25 B0 H0
    go_wp2
    go_ret3
    exact ⟨a, m, wr, rfl, HB.out, a0, a1, m0, m1⟩

theorem crIn_any (v : Value) (l : List Int) (fp : List Nat) (x : Int) (w : World) (g : IntS w l v fp) :
    Calls Try.prog 27 #[v, .int .i64 x] w fun e w' => e = .returned (.bool (decide (x ∈ l))) ∧ w' = w := by
  obtain ⟨a, n, cap, rfl, hn, hcap, hmax, hcm, r⟩ := g.opened
  clear g
  go_enter Try.func27, Try.ntmps27
  go_wp2
  go_loop [5] (fun i => ∃ k : Nat, k ≤ n ∧ i = .int .i64 k ∧ ∀ j (h : j < l.length), j < k → l[j] ≠ x) (fun i => n - (intOf i).toNat)
  case atStart => exact ⟨0, Nat.zero_le _, rfl, fun j _ h => absurd h (Nat.not_lt_zero j)⟩
  case round =>
    obtain ⟨k, hk, rfl, hp⟩ := hrel
    have HP := Lib.hid hp
    clear hp
    by_cases hlt : k < n
    · obtain ⟨i1, b1, o1, rfl, hb1, _, e1⟩ := r k hlt
      clear r
      by_cases hq : l[k] = x
      · have hq' : (l[k] == x) = true := by simpa using hq
        have HQ := Lib.hid hq
        clear hq
        go_wp2
        go_ret
        exact ⟨ret_bool (by symm; rw [decide_eq_true_eq]; rw [← HQ.out]; exact List.getElem_mem i1), rfl⟩
      · have hq' : (l[k] == x) = false := by simpa using hq
        have HQ := Lib.hid hq
        clear hq
        go_wp2
        go_round
        case rel => exact ⟨k + 1, by omega, by go_num, fun j h hj => (by
          by_cases e : j = k
          · subst e; exact HQ.out
          · exact HP.out j h (by omega))⟩
        case measure => simp [intOf]; omega
    · clear r
      go_wp2
      go_ret
      exact ⟨ret_bool (by
        symm
        rw [decide_eq_false_iff_not]
        intro hx
        obtain ⟨j, hj, rfl⟩ := List.mem_iff_getElem.1 hx
        exact HP.out j hj (by rw [hn.out] at hj; omega) rfl), rfl⟩

theorem crInts_any (v1 v2 : Value) (l1 l2 : List Int) (fp1 fp2 : List Nat) (w : World) (g1 : IntS w l1 v1 fp1) (g2 : IntS w l2 v2 fp2) :
    Calls Try.prog 22 #[v1, v2] w fun e w' => e = .returned (.bool (decide (l1 = l2))) ∧ ∃ n, w' = w.drewN n := by
  obtain ⟨a1, n1, c1, rfl, hn1, k1, m1, _, r1⟩ := g1.opened
  obtain ⟨a2, n2, c2, rfl, hn2, k2, m2, _, r2⟩ := g2.opened
  clear g1 g2
  by_cases hL : n2 = n1
  · obtain rfl := hL
    go_enter Try.func22, Try.ntmps22
    go_wp2
    go_loopw [5] (fun i wr => ∃ k : Nat, k ≤ n2 ∧ i = .int .i64 k ∧ l1.take k = l2.take k ∧ ∃ m, wr = w.drewN m) (fun i _ => n2 - (intOf i).toNat)
    case atStart => exact ⟨0, Nat.zero_le _, rfl, rfl, 0, rfl⟩
    case round =>
      obtain ⟨k, hk, rfl, ht, m, rfl⟩ := hrel
      have HT := Lib.hid ht
      clear ht
      by_cases hlt : k < n2
      · obtain ⟨i1, b1, o1, rfl, hb1, _, e1⟩ := r1 k hlt
        obtain ⟨i2, b2, o2, rfl, hb2, _, e2⟩ := r2 k hlt
        clear r1 r2
        by_cases hq : l1[k] = l2[k]
        · have hq' : (l1[k] != l2[k]) = false := by simp [hq]
          have HQ := Lib.hid hq
          clear hq
          go_wp2_with fail
          go_quiet (fail)
          go_wp2
          go_roundw
          case rel => exact ⟨k + 1, by omega, by go_num, take_succ_eq HT.out i1 i2 HQ.out, by (try simp only [World.drewN_drewN]); exact ⟨_, rfl⟩⟩
          case measure => simp [intOf]; omega
        · have hq' : (l1[k] != l2[k]) = true := by simp [hq]
          have HQ := Lib.hid hq
          clear hq
          go_wp2_with fail
          go_quiet (fail)
          go_wp2
          go_ret
          exact ⟨ret_bool (by simp; intro e; exact HQ.out (by simp [e])), by (try simp only [World.drewN_drewN]); exact ⟨_, rfl⟩⟩
      · clear r1 r2
        go_wp2
        go_ret
        exact ⟨ret_bool (by simp [take_all_eq HT.out hn1.out hn2.out (by omega)]), m, rfl⟩
  · clear r1 r2
    have hne : l1 ≠ l2 := fun e => hL (by rw [← hn1.out, ← hn2.out, e])
    have hq : ((n1 : Int) != n2) = true := by simp; omega
    go_enter Try.func22, Try.ntmps22
    go_wp2
    go_ret
    exact ⟨ret_bool (by simp [hne]), 0, rfl⟩

end Go.Proofs.Ytlamjbcacminmaa
