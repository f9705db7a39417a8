/-
  Proved: the Go function laws.FnInOk returns true for every code, and the code reads afterwards as before: all ready, none still is ok; what is ok, with a word less or more, is not.
  Conditions: none.
-/
import Derived.Test.YtmmojgopeaelcaaLift
import Derived.Test.YtmmojgopeaelcaaDInOk
import Derived.Test.YtmmojgopeaelcaaInAll
import Derived.Test.YtmmojgopeaelcaaOwn2
import Derived.Test.YtmmojgopeaelcaaFacts
import Derived.Test.YtmmojgopeaelcaaRegion3
namespace Go.Proofs.Ytmmojgopeaelcaa.fnInOk
set_option linter.unusedVariables false
set_option linter.unusedSimpArgs false
open Go.ChangeShapes Go.WideShapes Go.ChangeAt Go.RowKit

theorem all_ok : inOk inAll = true := by decide
theorem ok_lens {x : CycIn} (h : inOk x = true) : x.ready.length = 3 ∧ x.stall.length = 4 ∧ x.send.length = 3 := by
  unfold inOk at h
  simp only [Bool.and_eq_true, decide_eq_true_eq] at h
  exact ⟨h.1.1, h.1.2, h.2⟩
theorem bad0 {x : CycIn} (h : inOk x = true) : inOk ⟨x.ready.drop 1, x.stall, x.send⟩ = false := by
  have := ok_lens h
  unfold inOk
  simp [this.1]
theorem bad1 {x : CycIn} (h : inOk x = true) : inOk ⟨x.ready, x.stall.drop 1, x.send⟩ = false := by
  have := ok_lens h
  unfold inOk
  simp [this.2.1]
theorem bad2 {x : CycIn} (h : inOk x = true) : inOk ⟨x.ready, x.stall, true :: x.send⟩ = false := by
  have := ok_lens h
  unfold inOk
  simp [this.2.2]

theorem at_ready (k : Nat) (h : k < inAll.ready.length) : inAll.ready[k] = true := List.eq_of_mem_replicate (n := 3) (List.getElem_mem h)
theorem at_stall (k : Nat) (h : k < inAll.stall.length) : inAll.stall[k] = false := List.eq_of_mem_replicate (n := 4) (List.getElem_mem h)
theorem at_send (k : Nat) (h : k < inAll.send.length) : inAll.send[k] = true := List.eq_of_mem_replicate (n := 3) (List.getElem_mem h)
def FOne : Fact := fun v w => ∃ gq : Nat, v = .slice (some ⟨gq, 0, none⟩) 1 1 ∧ w.cell? ⟨gq, 0, none⟩ = some (.bool true)
theorem stOne : Stable [] FOne := fun _ _ _ ⟨gq, e, h⟩ hc => ⟨gq, e, keep_cell_chg hc h (by simp)⟩
def FAgg (r s : Value) (l : List Bool) : Fact := fun v w => ∃ v' f, v = .agg #[r, s, v'] ∧ SlR 1 boolR w l v' f
theorem stAgg (r s : Value) (l : List Bool) : Stable [] (FAgg r s l) := fun _ _ _ ⟨v', f, e, h⟩ hc => ⟨v', f, e, h.chg boolR_fits hc (fun _ _ => by simp)⟩

set_option maxRecDepth 100000 in
set_option maxHeartbeats 6400000 in
theorem walk (v : Value) (l0 : List Int) (fp0 : List Nat) (w : World) (g : ByteS w l0 v fp0) :
    Calls Try.prog 10 #[v] w fun e w' => e = .returned (.bool true) ∧ Below w.heap.size w w' := by
  obtain ⟨a0, n0, c0, rfl, hn0, hcap0, hmax0, hcm0, _⟩ := g.opened
  obtain ⟨i0, ki, kz0, kz1, kz2⟩ := info_parts infoBool1
  have G := Lib.hid g
  clear g
  by_cases hb : 1048576 < n0
  · go_enter Try.func10, Try.ntmps10
    go_wp2
    go_ret
    exact ⟨rfl, Below.refl _ _⟩
  · go_enter Try.func10, Try.ntmps10
    go_wp2_with fail
    refine (drawInOk_any _ l0 fp0 w G.out).mono ?_
    rintro e w1 ⟨x, v0, v1, v2, f0, f1, f2, rfl, s0, s1, s2, hl0, hl1, hl2, b1⟩
    obtain ⟨a, n, c, rfl, hn, hcap, hmax, hcm, _⟩ := s0.opened
    obtain ⟨a1, n1, c1, rfl, hn1, _, _, _, _⟩ := s1.opened
    obtain ⟨a2, n2, c2, rfl, hn2, _, _, _, _⟩ := s2.opened
    have ba := below_alloc w1 (.cells #[.slice a n c, .slice a1 n1 c1, .slice a2 n2 c2] 86)
    have S0 := Lib.hid (SlR.below boolR_fits s0 ba)
    have S1 := Lib.hid (SlR.below boolR_fits s1 ba)
    have S2 := Lib.hid (SlR.below boolR_fits s2 ba)
    have B1 := Lib.hid (b1.trans (ba.mono b1.size))
    clear s0 s1 s2 b1 hl0 hl1 hl2 ba
    go_wp2_with fail
    refine (iInOk_any x _ _ _ f0 f1 f2 _ S0.out S1.out S2.out).mono ?_
    obtain ⟨b, hbb⟩ : ∃ b, b = inOk x := ⟨_, rfl⟩
    rw [← hbb]
    have HBB := Lib.hid hbb
    clear hbb
    rintro e w2 ⟨rfl, b2⟩
    have P0 := keep_cell b2 (alloc1_new w1 _ _ 0 rfl)
    have P1 := keep_cell b2 (alloc1_new w1 _ _ 1 rfl)
    have P2 := keep_cell b2 (alloc1_new w1 _ _ 2 rfl)
    replace S0 := Lib.hid (SlR.below boolR_fits S0.out b2)
    replace S1 := Lib.hid (SlR.below boolR_fits S1.out b2)
    replace S2 := Lib.hid (SlR.below boolR_fits S2.out b2)
    replace B1 := Lib.hid (B1.out.trans (b2.mono B1.out.size))
    clear b2
    go_wp2_with fail
    refine (iInAll_any _).mono ?_
    rintro e w3 ⟨z0, e0, z1, e1, z2, e2, rfl, t0, t1, t2, _, b3⟩
    obtain ⟨y0, k0, d0, rfl⟩ := t0.form
    obtain ⟨y1, k1, d1, rfl⟩ := t1.form
    obtain ⟨y2, k2, d2, rfl⟩ := t2.form
    replace P0 := keep_cell b3 P0
    replace P1 := keep_cell b3 P1
    replace P2 := keep_cell b3 P2
    replace S0 := Lib.hid (SlR.below boolR_fits S0.out b3)
    replace S1 := Lib.hid (SlR.below boolR_fits S1.out b3)
    replace S2 := Lib.hid (SlR.below boolR_fits S2.out b3)
    replace B1 := Lib.hid (B1.out.trans (b3.mono B1.out.size))
    have T0 := Lib.hid t0
    have T1 := Lib.hid t1
    have T2 := Lib.hid t2
    clear b3 t0 t1 t2
    have A0 := alloc_keep P0 (.cells #[.slice y0 k0 d0, .slice y1 k1 d1, .slice y2 k2 d2] 86)
    have A1 := alloc_keep P1 (.cells #[.slice y0 k0 d0, .slice y1 k1 d1, .slice y2 k2 d2] 86)
    have A2 := alloc_keep P2 (.cells #[.slice y0 k0 d0, .slice y1 k1 d1, .slice y2 k2 d2] 86)
    go_wp2_with fail
    clear A0 A1 A2
    obtain ⟨W4, hW4⟩ : ∃ W, W = w3.alloc (.cells #[.slice y0 k0 d0, .slice y1 k1 d1, .slice y2 k2 d2] 86) := ⟨_, rfl⟩
    have ba : Below w3.heap.size w3 W4 := by rw [hW4]; exact below_alloc _ _
    have Z0 : W4.cell? ⟨w3.heap.size, 0, none⟩ = some (.slice y0 k0 d0) := by rw [hW4]; exact alloc1_new _ _ _ 0 rfl
    have Z1 : W4.cell? ⟨w3.heap.size, 1, none⟩ = some (.slice y1 k1 d1) := by rw [hW4]; exact alloc1_new _ _ _ 1 rfl
    have Z2 : W4.cell? ⟨w3.heap.size, 2, none⟩ = some (.slice y2 k2 d2) := by rw [hW4]; exact alloc1_new _ _ _ 2 rfl
    rw [← hW4]
    replace P0 := keep_cell ba P0
    replace P1 := keep_cell ba P1
    replace P2 := keep_cell ba P2
    replace S0 := Lib.hid (SlR.below boolR_fits S0.out ba)
    replace S1 := Lib.hid (SlR.below boolR_fits S1.out ba)
    replace S2 := Lib.hid (SlR.below boolR_fits S2.out ba)
    replace T0 := Lib.hid (SlR.below boolR_fits T0.out ba)
    replace T1 := Lib.hid (SlR.below boolR_fits T1.out ba)
    replace T2 := Lib.hid (SlR.below boolR_fits T2.out ba)
    replace B1 := Lib.hid (B1.out.trans (ba.mono B1.out.size))
    clear ba hW4
    refine (sInOk_any x _ _ _ f0 f1 f2 _ S0.out S1.out S2.out).mono ?_
    rw [← HBB.out]
    rintro e w5 ⟨rfl, b5⟩
    replace P0 := keep_cell b5 P0
    replace P1 := keep_cell b5 P1
    replace P2 := keep_cell b5 P2
    replace Z0 := keep_cell b5 Z0
    replace Z1 := keep_cell b5 Z1
    replace Z2 := keep_cell b5 Z2
    replace S0 := Lib.hid (SlR.below boolR_fits S0.out b5)
    replace S1 := Lib.hid (SlR.below boolR_fits S1.out b5)
    replace S2 := Lib.hid (SlR.below boolR_fits S2.out b5)
    replace T0 := Lib.hid (SlR.below boolR_fits T0.out b5)
    replace T1 := Lib.hid (SlR.below boolR_fits T1.out b5)
    replace T2 := Lib.hid (SlR.below boolR_fits T2.out b5)
    replace B1 := Lib.hid (B1.out.trans (b5.mono B1.out.size))
    clear b5
    have hbb : (b != b) = false := by simp
    go_wp2_with fail
    refine (iInOk_any inAll _ _ _ e0 e1 e2 _ T0.out T1.out T2.out).mono ?_
    rw [all_ok]
    rintro e w6 ⟨rfl, b6⟩
    replace P0 := keep_cell b6 P0
    replace P1 := keep_cell b6 P1
    replace P2 := keep_cell b6 P2
    replace Z0 := keep_cell b6 Z0
    replace Z1 := keep_cell b6 Z1
    replace Z2 := keep_cell b6 Z2
    replace S0 := Lib.hid (SlR.below boolR_fits S0.out b6)
    replace S1 := Lib.hid (SlR.below boolR_fits S1.out b6)
    replace S2 := Lib.hid (SlR.below boolR_fits S2.out b6)
    replace T0 := Lib.hid (SlR.below boolR_fits T0.out b6)
    replace T1 := Lib.hid (SlR.below boolR_fits T1.out b6)
    replace T2 := Lib.hid (SlR.below boolR_fits T2.out b6)
    replace B1 := Lib.hid (B1.out.trans (b6.mono B1.out.size))
    clear b6
    obtain ⟨_, _, _, q0, m0, _, _, _, r0⟩ := BoolS.opened T0.out
    simp only [Value.slice.injEq] at q0
    obtain ⟨rfl, rfl, rfl⟩ := q0
    obtain ⟨_, _, _, q1, m1, _, _, _, r1⟩ := BoolS.opened T1.out
    simp only [Value.slice.injEq] at q1
    obtain ⟨rfl, rfl, rfl⟩ := q1
    obtain ⟨_, _, _, q2, m2, _, _, _, r2⟩ := BoolS.opened T2.out
    simp only [Value.slice.injEq] at q2
    obtain ⟨rfl, rfl, rfl⟩ := q2
    obtain rfl : 3 = k0 := m0.out
    obtain rfl : 4 = k1 := m1.out
    obtain rfl : 3 = k2 := m2.out
    have R0 := Lib.hid r0
    have R1 := Lib.hid r1
    have R2 := Lib.hid r2
    clear r0 r1 r2
    go_wp2_with fail
    go_loopw [6] (fun i wr => ∃ k : Nat, k ≤ 3 ∧ i = .int .i64 k ∧ wr = w6) (fun i _ => 3 - (intOf i).toNat)
    case atStart => exact ⟨0, by omega, rfl, rfl⟩
    case round =>
      obtain ⟨k, hk, rfl, rfl⟩ := hrel
      by_cases hlt : k < 3
      · have hlt3 : (k : Int) < 3 := by omega
        have hlt4 : (k : Int) < 4 := by omega
        obtain ⟨j0, b0, o0, rfl, _, _, u0⟩ := R0.out k hlt
        obtain ⟨j1, b1, o1, rfl, _, _, u1⟩ := R1.out k (by omega)
        obtain ⟨j2, b2, o2, rfl, _, _, u2⟩ := R2.out k hlt
        rw [show inAll.ready[k] = true from at_ready k _] at u0
        rw [show inAll.stall[k] = false from at_stall k _] at u1
        rw [show inAll.send[k] = true from at_send k _] at u2
        go_wp2
        go_roundw
        case rel => exact ⟨k + 1, by omega, by go_num, by first | rfl | trivial⟩
        case measure => simp [intOf]; omega
      · have hk3 : ¬ (k : Int) < 3 := by omega
        clear R0 R1 R2 T0 T1 T2 Z0 Z1 Z2
        cases b
        · go_wp2
          go_ret
          exact ⟨rfl, B1.out⟩
        · have hl := ok_lens HBB.out.symm
          have l0 := hl.1
          have l1 := hl.2.1
          have l2 := hl.2.2
          obtain rfl : 3 = n := by rw [← hn.out]; exact l0.symm
          obtain rfl : 4 = n1 := by rw [← hn1.out]; exact l1.symm
          obtain rfl : 3 = n2 := by rw [← hn2.out]; exact l2.symm
          have L0 := Lib.hid l0
          have L1 := Lib.hid l1
          have L2 := Lib.hid l2
          clear hl l0 l1 l2
          obtain ⟨_, _, _, q0, _, _, _, _, r0⟩ := BoolS.opened S0.out
          simp only [Value.slice.injEq] at q0
          obtain ⟨rfl, rfl, rfl⟩ := q0
          obtain ⟨_, b0, o0, rfl, _⟩ := r0 0 (by decide)
          obtain ⟨_, _, _, q1, _, _, _, _, r1⟩ := BoolS.opened S1.out
          simp only [Value.slice.injEq] at q1
          obtain ⟨rfl, rfl, rfl⟩ := q1
          obtain ⟨_, b1, o1, rfl, _⟩ := r1 0 (by decide)
          obtain ⟨_, _, _, q2, _, _, _, _, r2⟩ := BoolS.opened S2.out
          simp only [Value.slice.injEq] at q2
          obtain ⟨rfl, rfl, rfl⟩ := q2
          obtain ⟨_, b2, o2, rfl, _⟩ := r2 0 (by decide)
          obtain ⟨g0, d0, _⟩ := SlR.drop S0.out 1 (by decide)
          have D0 : Hid (SlR 1 boolR wr (x.ready.drop 1) (.slice (some ⟨b0, o0 + 1, none⟩) 2 (c - 1)) g0) := Lib.hid d0
          obtain ⟨g1, d1, _⟩ := SlR.drop S1.out 1 (by decide)
          have D1 : Hid (SlR 1 boolR wr (x.stall.drop 1) (.slice (some ⟨b1, o1 + 1, none⟩) 3 (c1 - 1)) g1) := Lib.hid d1
          have hc0 : 3 ≤ c := hcap
          clear r0 r1 r2 d0 d1
          go_wp2_with fail
          have hst : ∀ F, F ∈ [FEq (.pointer (some ⟨w1.heap.size, 0, none⟩)), FEq (.slice (some ⟨b0, o0, none⟩) 3 c), FEq (.slice (some ⟨b0, o0 + 1, none⟩) 2 (c - 1)), FEq (.pointer (some ⟨w1.heap.size, 1, none⟩)), FEq (.slice (some ⟨b1, o1, none⟩) 4 c1), FEq (.pointer (some ⟨w1.heap.size, 2, none⟩)), FEq (.slice (some ⟨b2, o2, none⟩) 3 c2), FEq (.agg #[.slice (some ⟨b0, o0 + 1, none⟩) 2 (c - 1), .slice (some ⟨b1, o1, none⟩) 4 c1, .slice (some ⟨b2, o2, none⟩) 3 c2]), FEq (.bool false), FEq (.bool true), FEq (.bool true), FEq (.pointer (some ⟨w1.heap.size, 0, none⟩)), FEq (.slice (some ⟨b0, o0, none⟩) 3 c), FEq (.pointer (some ⟨w1.heap.size, 1, none⟩)), FEq (.slice (some ⟨b1, o1, none⟩) 4 c1), FEq (.slice (some ⟨b1, o1 + 1, none⟩) 3 (c1 - 1)), FEq (.pointer (some ⟨w1.heap.size, 2, none⟩)), FEq (.slice (some ⟨b2, o2, none⟩) 3 c2), FEq (.agg #[.slice (some ⟨b0, o0, none⟩) 3 c, .slice (some ⟨b1, o1 + 1, none⟩) 3 (c1 - 1), .slice (some ⟨b2, o2, none⟩) 3 c2]), FEq (.bool false), FEq (.bool true), FEq (.bool true), FEq (.bool true), FEq (.pointer (some ⟨w1.heap.size, 0, none⟩)), FEq (.slice (some ⟨b0, o0, none⟩) 3 c), FEq (.pointer (some ⟨w1.heap.size, 1, none⟩)), FEq (.slice (some ⟨b1, o1, none⟩) 4 c1), FOne, FEq (.pointer (some ⟨w1.heap.size, 2, none⟩)), FEq (.slice (some ⟨b2, o2, none⟩) 3 c2), FSlR 1 boolR (true :: x.send), FAgg (.slice (some ⟨b0, o0, none⟩) 3 c) (.slice (some ⟨b1, o1, none⟩) 4 c1) (true :: x.send), FEq (.bool false), FEq (.bool true), FEq (.bool true), FEq (.bool true)] → Stable [] F := by
            simp only [List.forall_mem_cons]
            exact ⟨stEq _ _, stEq _ _, stEq _ _, stEq _ _, stEq _ _, stEq _ _, stEq _ _, stEq _ _, stEq _ _, stEq _ _, stEq _ _, stEq _ _, stEq _ _, stEq _ _, stEq _ _, stEq _ _, stEq _ _, stEq _ _, stEq _ _, stEq _ _, stEq _ _, stEq _ _, stEq _ _, stEq _ _, stEq _ _, stEq _ _, stEq _ _, stOne, stEq _ _, stEq _ _, stSlR boolR_fits _, stAgg _ _ _, stEq _ _, stEq _ _, stEq _ _, stEq _ _, fun _ h => by simp at h⟩
          refine wp_region_tail (by kernel_rfl) (fun i => ([[], [0], [0, 1], [], [3], [], [5], [0, 1, 2, 3, 4, 5, 6], [0, 1, 2, 3, 4, 5, 6, 7], [0, 1, 2, 3, 4, 5, 6, 7, 8], [0, 1, 2, 3, 4, 5, 6, 7, 8, 9], [0, 1, 2, 3, 4, 5, 6, 7, 8, 9, 10], [0, 1, 2, 3, 4, 5, 6, 7, 8, 9, 10, 11], [0, 1, 2, 3, 4, 5, 6, 7, 8, 9, 10], [0, 1, 2, 3, 4, 5, 6, 7, 8, 9, 10, 13], [0, 1, 2, 3, 4, 5, 6, 7, 8, 9, 10, 13, 14], [0, 1, 2, 3, 4, 5, 6, 7, 8, 9, 10], [0, 1, 2, 3, 4, 5, 6, 7, 8, 9, 10, 16], [0, 1, 2, 3, 4, 5, 6, 7, 8, 9, 10, 11, 12, 13, 14, 15, 16, 17], [0, 1, 2, 3, 4, 5, 6, 7, 8, 9, 10, 11, 12, 13, 14, 15, 16, 17, 18], [0, 1, 2, 3, 4, 5, 6, 7, 8, 9, 10, 11, 12, 13, 14, 15, 16, 17, 18, 19], [0, 1, 2, 3, 4, 5, 6, 7, 8, 9, 10, 11, 12, 13, 14, 15, 16, 17, 18, 19, 20], [0, 1, 2, 3, 4, 5, 6, 7, 8, 9, 10, 11, 12, 13, 14, 15, 16, 17, 18, 19, 20, 21], [0, 1, 2, 3, 4, 5, 6, 7, 8, 9, 10, 11, 12, 13, 14, 15, 16, 17, 18, 19, 20, 21, 22], [0, 1, 2, 3, 4, 5, 6, 7, 8, 9, 10, 11, 12, 13, 14, 15, 16, 17, 18, 19, 20, 21, 22, 23], [0, 1, 2, 3, 4, 5, 6, 7, 8, 9, 10, 11, 12, 13, 14, 15, 16, 17, 18, 19, 20, 21, 22], [0, 1, 2, 3, 4, 5, 6, 7, 8, 9, 10, 11, 12, 13, 14, 15, 16, 17, 18, 19, 20, 21, 22, 25], [0, 1, 2, 3, 4, 5, 6, 7, 8, 9, 10, 11, 12, 13, 14, 15, 16, 17, 18, 19, 20, 21, 22], [0, 1, 2, 3, 4, 5, 6, 7, 8, 9, 10, 11, 12, 13, 14, 15, 16, 17, 18, 19, 20, 21, 22], [0, 1, 2, 3, 4, 5, 6, 7, 8, 9, 10, 11, 12, 13, 14, 15, 16, 17, 18, 19, 20, 21, 22, 28], [0, 1, 2, 3, 4, 5, 6, 7, 8, 9, 10, 11, 12, 13, 14, 15, 16, 17, 18, 19, 20, 21, 22, 27, 28, 29], [0, 1, 2, 3, 4, 5, 6, 7, 8, 9, 10, 11, 12, 13, 14, 15, 16, 17, 18, 19, 20, 21, 22, 23, 24, 25, 26, 27, 28, 29, 30], [0, 1, 2, 3, 4, 5, 6, 7, 8, 9, 10, 11, 12, 13, 14, 15, 16, 17, 18, 19, 20, 21, 22, 23, 24, 25, 26, 27, 28, 29, 30, 31], [0, 1, 2, 3, 4, 5, 6, 7, 8, 9, 10, 11, 12, 13, 14, 15, 16, 17, 18, 19, 20, 21, 22, 23, 24, 25, 26, 27, 28, 29, 30, 31, 32], [0, 1, 2, 3, 4, 5, 6, 7, 8, 9, 10, 11, 12, 13, 14, 15, 16, 17, 18, 19, 20, 21, 22, 23, 24, 25, 26, 27, 28, 29, 30, 31, 32, 33], [0, 1, 2, 3, 4, 5, 6, 7, 8, 9, 10, 11, 12, 13, 14, 15, 16, 17, 18, 19, 20, 21, 22, 23, 24, 25, 26, 27, 28, 29, 30, 31, 32, 33, 34]] : List (List Nat)).getD i []) (facts [FEq (.pointer (some ⟨w1.heap.size, 0, none⟩)), FEq (.slice (some ⟨b0, o0, none⟩) 3 c), FEq (.slice (some ⟨b0, o0 + 1, none⟩) 2 (c - 1)), FEq (.pointer (some ⟨w1.heap.size, 1, none⟩)), FEq (.slice (some ⟨b1, o1, none⟩) 4 c1), FEq (.pointer (some ⟨w1.heap.size, 2, none⟩)), FEq (.slice (some ⟨b2, o2, none⟩) 3 c2), FEq (.agg #[.slice (some ⟨b0, o0 + 1, none⟩) 2 (c - 1), .slice (some ⟨b1, o1, none⟩) 4 c1, .slice (some ⟨b2, o2, none⟩) 3 c2]), FEq (.bool false), FEq (.bool true), FEq (.bool true), FEq (.pointer (some ⟨w1.heap.size, 0, none⟩)), FEq (.slice (some ⟨b0, o0, none⟩) 3 c), FEq (.pointer (some ⟨w1.heap.size, 1, none⟩)), FEq (.slice (some ⟨b1, o1, none⟩) 4 c1), FEq (.slice (some ⟨b1, o1 + 1, none⟩) 3 (c1 - 1)), FEq (.pointer (some ⟨w1.heap.size, 2, none⟩)), FEq (.slice (some ⟨b2, o2, none⟩) 3 c2), FEq (.agg #[.slice (some ⟨b0, o0, none⟩) 3 c, .slice (some ⟨b1, o1 + 1, none⟩) 3 (c1 - 1), .slice (some ⟨b2, o2, none⟩) 3 c2]), FEq (.bool false), FEq (.bool true), FEq (.bool true), FEq (.bool true), FEq (.pointer (some ⟨w1.heap.size, 0, none⟩)), FEq (.slice (some ⟨b0, o0, none⟩) 3 c), FEq (.pointer (some ⟨w1.heap.size, 1, none⟩)), FEq (.slice (some ⟨b1, o1, none⟩) 4 c1), FOne, FEq (.pointer (some ⟨w1.heap.size, 2, none⟩)), FEq (.slice (some ⟨b2, o2, none⟩) 3 c2), FSlR 1 boolR (true :: x.send), FAgg (.slice (some ⟨b0, o0, none⟩) 3 c) (.slice (some ⟨b1, o1, none⟩) 4 c1) (true :: x.send), FEq (.bool false), FEq (.bool true), FEq (.bool true), FEq (.bool true)]) (fun m w' => Below wr.heap.size wr w') 86 36 36 [some 51, some 52, some 53, some 54, some 55, some 56, some 57, some 58, some 59, some 60, some 61, some 62, some 63, some 64, some 65, some 66, some 67, some 68, some 69, some 70, some 71, some 72, some 73, some 74, some 75, some 76, some 77, some 78, some 79, some 80, some 81, some 82, some 83, some 84, some 85, some 2] [] rfl rfl (by decide) rfl rfl (by kernel_rfl) (by kernel_rfl) [(10, true), (22, true)] (by kernel_rfl) (fun g b hm v w h => by simp only [List.mem_cons, List.not_mem_nil, or_false, Prod.mk.injEq] at hm; rcases hm with ⟨rfl, rfl⟩ | ⟨rfl, rfl⟩ <;> exact h) ?h0 (all_lt (n := 36) ?hop) ?hend
          case h0 => exact (Below.refl _ _).drew
          case hop =>
            refine ⟨⟨⟨⟨⟨⟨⟨⟨⟨⟨⟨⟨⟨⟨⟨⟨⟨⟨⟨⟨⟨⟨⟨⟨⟨⟨⟨⟨⟨⟨⟨⟨⟨⟨⟨⟨trivial, ?_⟩, ?_⟩, ?_⟩, ?_⟩, ?_⟩, ?_⟩, ?_⟩, ?_⟩, ?_⟩, ?_⟩, ?_⟩, ?_⟩, ?_⟩, ?_⟩, ?_⟩, ?_⟩, ?_⟩, ?_⟩, ?_⟩, ?_⟩, ?_⟩, ?_⟩, ?_⟩, ?_⟩, ?_⟩, ?_⟩, ?_⟩, ?_⟩, ?_⟩, ?_⟩, ?_⟩, ?_⟩, ?_⟩, ?_⟩, ?_⟩, ?_⟩
            · refine Owes.mk _ rfl rfl (fun _ _ h => by cases h) fun u m w' hm hI hR => ⟨⟨#[undef, undef, undef, .pointer (some ⟨w1.heap.size, 0, none⟩), undef, undef, undef, undef, undef, undef, undef, undef, undef, undef, undef, undef, undef, undef, undef, undef, undef, undef, undef, undef, undef, undef, undef, undef, undef, undef, undef, undef, undef, undef, undef, undef, undef, undef, undef, undef, undef, undef, undef, undef, undef, undef, undef, undef, undef, undef, undef, undef, undef, undef, undef, undef, undef, undef, undef, undef, undef, undef, undef, undef, undef, undef, undef, undef, undef, undef, undef, undef, undef, undef, undef, undef, undef, undef, undef, undef, undef, undef, undef, undef, undef, undef], []⟩, rfl, fun d hd => by cases hd; exact (by decide : 51 < 86), ?_⟩
              have k0 := keep_cell hI P0
              have k1 := keep_cell hI P1
              have k2 := keep_cell hI P2
              have HI := Lib.hid hI
              clear hI hst hR
              go_wp2
              exact ⟨rfl, _, rfl, rfl, HI.out, fun _ _ h => h⟩
            · refine Owes.mk _ rfl rfl (fun _ _ h => by cases h) fun u m w' hm hI hR => ⟨⟨#[undef, undef, undef, undef, undef, undef, undef, undef, undef, undef, undef, undef, undef, undef, undef, undef, undef, undef, undef, undef, undef, undef, undef, undef, undef, undef, undef, undef, undef, undef, undef, undef, undef, undef, undef, undef, undef, undef, undef, undef, undef, undef, undef, undef, undef, undef, undef, undef, undef, undef, undef, u 0, undef, undef, undef, undef, undef, undef, undef, undef, undef, undef, undef, undef, undef, undef, undef, undef, undef, undef, undef, undef, undef, undef, undef, undef, undef, undef, undef, undef, undef, undef, undef, undef, undef, undef], []⟩, rfl, fun d hd => by cases hd; exact (by decide : 52 < 86), ?_⟩
              have e0 : u 0 = _ := hR 0 (by decide)
              have k0 := keep_cell hI P0
              have k1 := keep_cell hI P1
              have k2 := keep_cell hI P2
              have HI := Lib.hid hI
              clear hI hst hR
              rw [e0]
              clear e0
              go_wp2
              exact ⟨rfl, _, rfl, rfl, HI.out, fun _ _ h => h⟩
            · refine Owes.mk _ rfl rfl (fun _ _ h => by cases h) fun u m w' hm hI hR => ⟨⟨#[undef, undef, undef, undef, undef, undef, undef, undef, undef, undef, undef, undef, undef, undef, undef, undef, undef, undef, undef, undef, undef, undef, undef, undef, undef, undef, undef, undef, undef, undef, undef, undef, undef, undef, undef, undef, undef, undef, undef, undef, undef, undef, undef, undef, undef, undef, undef, undef, undef, undef, undef, undef, u 1, undef, undef, undef, undef, undef, undef, undef, undef, undef, undef, undef, undef, undef, undef, undef, undef, undef, undef, undef, undef, undef, undef, undef, undef, undef, undef, undef, undef, undef, undef, undef, undef, undef], []⟩, rfl, fun d hd => by cases hd; exact (by decide : 53 < 86), ?_⟩
              have e1 : u 1 = _ := hR 1 (by decide)
              have k0 := keep_cell hI P0
              have k1 := keep_cell hI P1
              have k2 := keep_cell hI P2
              have HI := Lib.hid hI
              clear hI hst hR
              rw [e1]
              clear e1
              go_wp2
              exact ⟨rfl, _, rfl, rfl, HI.out, fun _ _ h => h⟩
            · refine Owes.mk _ rfl rfl (fun _ _ h => by cases h) fun u m w' hm hI hR => ⟨⟨#[undef, undef, undef, .pointer (some ⟨w1.heap.size, 0, none⟩), undef, undef, undef, undef, undef, undef, undef, undef, undef, undef, undef, undef, undef, undef, undef, undef, undef, undef, undef, undef, undef, undef, undef, undef, undef, undef, undef, undef, undef, undef, undef, undef, undef, undef, undef, undef, undef, undef, undef, undef, undef, undef, undef, undef, undef, undef, undef, undef, undef, undef, undef, undef, undef, undef, undef, undef, undef, undef, undef, undef, undef, undef, undef, undef, undef, undef, undef, undef, undef, undef, undef, undef, undef, undef, undef, undef, undef, undef, undef, undef, undef, undef], []⟩, rfl, fun d hd => by cases hd; exact (by decide : 54 < 86), ?_⟩
              have k0 := keep_cell hI P0
              have k1 := keep_cell hI P1
              have k2 := keep_cell hI P2
              have HI := Lib.hid hI
              clear hI hst hR
              go_wp2
              exact ⟨rfl, _, rfl, rfl, HI.out, fun _ _ h => h⟩
            · refine Owes.mk _ rfl rfl (fun _ _ h => by cases h) fun u m w' hm hI hR => ⟨⟨#[undef, undef, undef, undef, undef, undef, undef, undef, undef, undef, undef, undef, undef, undef, undef, undef, undef, undef, undef, undef, undef, undef, undef, undef, undef, undef, undef, undef, undef, undef, undef, undef, undef, undef, undef, undef, undef, undef, undef, undef, undef, undef, undef, undef, undef, undef, undef, undef, undef, undef, undef, undef, undef, undef, u 3, undef, undef, undef, undef, undef, undef, undef, undef, undef, undef, undef, undef, undef, undef, undef, undef, undef, undef, undef, undef, undef, undef, undef, undef, undef, undef, undef, undef, undef, undef, undef], []⟩, rfl, fun d hd => by cases hd; exact (by decide : 55 < 86), ?_⟩
              have e3 : u 3 = _ := hR 3 (by decide)
              have k0 := keep_cell hI P0
              have k1 := keep_cell hI P1
              have k2 := keep_cell hI P2
              have HI := Lib.hid hI
              clear hI hst hR
              rw [e3]
              clear e3
              go_wp2
              exact ⟨rfl, _, rfl, rfl, HI.out, fun _ _ h => h⟩
            · refine Owes.mk _ rfl rfl (fun _ _ h => by cases h) fun u m w' hm hI hR => ⟨⟨#[undef, undef, undef, .pointer (some ⟨w1.heap.size, 0, none⟩), undef, undef, undef, undef, undef, undef, undef, undef, undef, undef, undef, undef, undef, undef, undef, undef, undef, undef, undef, undef, undef, undef, undef, undef, undef, undef, undef, undef, undef, undef, undef, undef, undef, undef, undef, undef, undef, undef, undef, undef, undef, undef, undef, undef, undef, undef, undef, undef, undef, undef, undef, undef, undef, undef, undef, undef, undef, undef, undef, undef, undef, undef, undef, undef, undef, undef, undef, undef, undef, undef, undef, undef, undef, undef, undef, undef, undef, undef, undef, undef, undef, undef], []⟩, rfl, fun d hd => by cases hd; exact (by decide : 56 < 86), ?_⟩
              have k0 := keep_cell hI P0
              have k1 := keep_cell hI P1
              have k2 := keep_cell hI P2
              have HI := Lib.hid hI
              clear hI hst hR
              go_wp2
              exact ⟨rfl, _, rfl, rfl, HI.out, fun _ _ h => h⟩
            · refine Owes.mk _ rfl rfl (fun _ _ h => by cases h) fun u m w' hm hI hR => ⟨⟨#[undef, undef, undef, undef, undef, undef, undef, undef, undef, undef, undef, undef, undef, undef, undef, undef, undef, undef, undef, undef, undef, undef, undef, undef, undef, undef, undef, undef, undef, undef, undef, undef, undef, undef, undef, undef, undef, undef, undef, undef, undef, undef, undef, undef, undef, undef, undef, undef, undef, undef, undef, undef, undef, undef, undef, undef, u 5, undef, undef, undef, undef, undef, undef, undef, undef, undef, undef, undef, undef, undef, undef, undef, undef, undef, undef, undef, undef, undef, undef, undef, undef, undef, undef, undef, undef, undef], []⟩, rfl, fun d hd => by cases hd; exact (by decide : 57 < 86), ?_⟩
              have e5 : u 5 = _ := hR 5 (by decide)
              have k0 := keep_cell hI P0
              have k1 := keep_cell hI P1
              have k2 := keep_cell hI P2
              have HI := Lib.hid hI
              clear hI hst hR
              rw [e5]
              clear e5
              go_wp2
              exact ⟨rfl, _, rfl, rfl, HI.out, fun _ _ h => h⟩
            · refine Owes.mk _ rfl rfl (fun _ _ h => by cases h) fun u m w' hm hI hR => ⟨⟨#[undef, undef, undef, undef, undef, undef, undef, undef, undef, undef, undef, undef, undef, undef, undef, undef, undef, undef, undef, undef, undef, undef, undef, undef, undef, undef, undef, undef, undef, undef, undef, undef, undef, undef, undef, undef, undef, undef, undef, undef, undef, undef, undef, undef, undef, undef, undef, undef, undef, undef, undef, undef, undef, u 2, undef, u 4, undef, u 6, undef, undef, undef, undef, undef, undef, undef, undef, undef, undef, undef, undef, undef, undef, undef, undef, undef, undef, undef, undef, undef, undef, undef, undef, undef, undef, undef, undef], []⟩, rfl, fun d hd => by cases hd; exact (by decide : 58 < 86), ?_⟩
              have e2 : u 2 = _ := hR 2 (by decide)
              have e4 : u 4 = _ := hR 4 (by decide)
              have e6 : u 6 = _ := hR 6 (by decide)
              have k0 := keep_cell hI P0
              have k1 := keep_cell hI P1
              have k2 := keep_cell hI P2
              have HI := Lib.hid hI
              clear hI hst hR
              rw [e2, e4, e6]
              clear e2 e4 e6
              go_wp2
              exact ⟨rfl, _, rfl, rfl, HI.out, fun _ _ h => h⟩
            · refine Owes.mk _ rfl rfl (fun _ _ h => by cases h) fun u m w' hm hI hR => ⟨⟨#[undef, undef, undef, undef, undef, undef, undef, undef, undef, undef, undef, undef, undef, undef, undef, undef, undef, undef, undef, undef, undef, undef, undef, undef, undef, undef, undef, undef, undef, undef, undef, undef, undef, undef, undef, undef, undef, undef, undef, undef, undef, undef, undef, undef, undef, undef, undef, undef, undef, undef, undef, undef, undef, undef, undef, undef, undef, undef, u 7, undef, undef, undef, undef, undef, undef, undef, undef, undef, undef, undef, undef, undef, undef, undef, undef, undef, undef, undef, undef, undef, undef, undef, undef, undef, undef, undef], []⟩, rfl, fun d hd => by cases hd; exact (by decide : 59 < 86), ?_⟩
              have e7 : u 7 = _ := hR 7 (by decide)
              have k0 := keep_cell hI P0
              have k1 := keep_cell hI P1
              have k2 := keep_cell hI P2
              rw [e7]
              clear e7
              have HX0 := Lib.hid (SlR.below boolR_fits D0.out hI)
              have HX1 := Lib.hid (SlR.below boolR_fits S1.out hI)
              have HX2 := Lib.hid (SlR.below boolR_fits S2.out hI)
              go_wp2_with fail
              refine (iInOk_any ⟨x.ready.drop 1, x.stall, x.send⟩ _ _ _ _ _ _ _ HX0.out HX1.out HX2.out).mono ?_
              rw [bad0 HBB.out.symm]
              rintro e w7 ⟨rfl, b7⟩
              have HS := Lib.hid (facts_stable hst (b7.chg []))
              have HI := Lib.hid (hI.trans (b7.mono hI.size))
              clear hI b7 hst hR
              go_wp2
              exact ⟨rfl, _, rfl, rfl, HI.out, HS.out⟩
            · refine Owes.mk _ rfl rfl (fun _ _ h => by cases h) fun u m w' hm hI hR => ⟨⟨#[undef, undef, undef, undef, undef, undef, undef, undef, undef, undef, undef, undef, undef, undef, undef, undef, undef, undef, undef, undef, undef, undef, undef, undef, undef, undef, undef, undef, undef, undef, undef, undef, undef, undef, undef, undef, undef, undef, undef, undef, undef, undef, undef, undef, undef, undef, undef, undef, undef, undef, undef, undef, undef, undef, undef, undef, undef, undef, undef, u 8, undef, undef, undef, undef, undef, undef, undef, undef, undef, undef, undef, undef, undef, undef, undef, undef, undef, undef, undef, undef, undef, undef, undef, undef, undef, undef], []⟩, rfl, fun d hd => by cases hd; exact (by decide : 60 < 86), ?_⟩
              have e8 : u 8 = _ := hR 8 (by decide)
              have k0 := keep_cell hI P0
              have k1 := keep_cell hI P1
              have k2 := keep_cell hI P2
              have HI := Lib.hid hI
              clear hI hst hR
              rw [e8]
              clear e8
              go_wp2
              exact ⟨rfl, _, rfl, rfl, HI.out, fun _ _ h => h⟩
            · refine Owes.mk _ rfl rfl (fun _ _ h => by cases h) fun u m w' hm hI hR => ⟨⟨#[undef, undef, undef, undef, undef, undef, undef, undef, undef, undef, undef, undef, undef, undef, undef, undef, undef, undef, undef, undef, undef, undef, undef, undef, undef, undef, undef, undef, undef, undef, undef, undef, undef, undef, undef, undef, undef, undef, undef, undef, undef, undef, undef, undef, undef, undef, undef, undef, undef, undef, undef, undef, undef, undef, undef, undef, undef, undef, undef, undef, u 9, undef, undef, undef, undef, undef, undef, undef, undef, undef, undef, undef, undef, undef, undef, undef, undef, undef, undef, undef, undef, undef, undef, undef, undef, undef], []⟩, rfl, fun d hd => by cases hd; exact (by decide : 61 < 86), ?_⟩
              have e9 : u 9 = _ := hR 9 (by decide)
              have k0 := keep_cell hI P0
              have k1 := keep_cell hI P1
              have k2 := keep_cell hI P2
              have HI := Lib.hid hI
              clear hI hst hR
              rw [e9]
              clear e9
              go_wp2
              exact ⟨rfl, _, rfl, rfl, HI.out, fun _ _ h => h⟩
            · refine Owes.mkG _ _ rfl rfl (fun _ _ h => by cases h) fun u m w' hm hI hR => ⟨⟨#[undef, undef, undef, .pointer (some ⟨w1.heap.size, 0, none⟩), undef, undef, undef, undef, undef, undef, undef, undef, undef, undef, undef, undef, undef, undef, undef, undef, undef, undef, undef, undef, undef, undef, undef, undef, undef, undef, undef, undef, undef, undef, undef, undef, undef, undef, undef, undef, undef, undef, undef, undef, undef, undef, undef, undef, undef, undef, undef, undef, undef, undef, undef, undef, undef, undef, undef, undef, undef, undef, undef, undef, undef, undef, undef, undef, undef, undef, undef, undef, undef, undef, undef, undef, undef, undef, undef, undef, undef, undef, undef, undef, undef, undef], []⟩, rfl, fun d hd => by cases hd; exact (by decide : 62 < 86), ?_⟩
              have k0 := keep_cell hI P0
              have k1 := keep_cell hI P1
              have k2 := keep_cell hI P2
              have HI := Lib.hid hI
              clear hI hst hR
              go_wp2
              exact ⟨rfl, _, rfl, rfl, HI.out, fun _ _ h => h⟩
            · refine Owes.mkG _ _ rfl rfl (fun _ _ h => by cases h) fun u m w' hm hI hR => ⟨⟨#[undef, undef, undef, undef, undef, undef, undef, undef, undef, undef, undef, undef, undef, undef, undef, undef, undef, undef, undef, undef, undef, undef, undef, undef, undef, undef, undef, undef, undef, undef, undef, undef, undef, undef, undef, undef, undef, undef, undef, undef, undef, undef, undef, undef, undef, undef, undef, undef, undef, undef, undef, undef, undef, undef, undef, undef, undef, undef, undef, undef, undef, undef, u 11, undef, undef, undef, undef, undef, undef, undef, undef, undef, undef, undef, undef, undef, undef, undef, undef, undef, undef, undef, undef, undef, undef, undef], []⟩, rfl, fun d hd => by cases hd; exact (by decide : 63 < 86), ?_⟩
              have e11 : u 11 = _ := hR 11 (by decide)
              have k0 := keep_cell hI P0
              have k1 := keep_cell hI P1
              have k2 := keep_cell hI P2
              have HI := Lib.hid hI
              clear hI hst hR
              rw [e11]
              clear e11
              go_wp2
              exact ⟨rfl, _, rfl, rfl, HI.out, fun _ _ h => h⟩
            · refine Owes.mkG _ _ rfl rfl (fun _ _ h => by cases h) fun u m w' hm hI hR => ⟨⟨#[undef, undef, undef, .pointer (some ⟨w1.heap.size, 0, none⟩), undef, undef, undef, undef, undef, undef, undef, undef, undef, undef, undef, undef, undef, undef, undef, undef, undef, undef, undef, undef, undef, undef, undef, undef, undef, undef, undef, undef, undef, undef, undef, undef, undef, undef, undef, undef, undef, undef, undef, undef, undef, undef, undef, undef, undef, undef, undef, undef, undef, undef, undef, undef, undef, undef, undef, undef, undef, undef, undef, undef, undef, undef, undef, undef, undef, undef, undef, undef, undef, undef, undef, undef, undef, undef, undef, undef, undef, undef, undef, undef, undef, undef], []⟩, rfl, fun d hd => by cases hd; exact (by decide : 64 < 86), ?_⟩
              have k0 := keep_cell hI P0
              have k1 := keep_cell hI P1
              have k2 := keep_cell hI P2
              have HI := Lib.hid hI
              clear hI hst hR
              go_wp2
              exact ⟨rfl, _, rfl, rfl, HI.out, fun _ _ h => h⟩
            · refine Owes.mkG _ _ rfl rfl (fun _ _ h => by cases h) fun u m w' hm hI hR => ⟨⟨#[undef, undef, undef, undef, undef, undef, undef, undef, undef, undef, undef, undef, undef, undef, undef, undef, undef, undef, undef, undef, undef, undef, undef, undef, undef, undef, undef, undef, undef, undef, undef, undef, undef, undef, undef, undef, undef, undef, undef, undef, undef, undef, undef, undef, undef, undef, undef, undef, undef, undef, undef, undef, undef, undef, undef, undef, undef, undef, undef, undef, undef, undef, undef, undef, u 13, undef, undef, undef, undef, undef, undef, undef, undef, undef, undef, undef, undef, undef, undef, undef, undef, undef, undef, undef, undef, undef], []⟩, rfl, fun d hd => by cases hd; exact (by decide : 65 < 86), ?_⟩
              have e13 : u 13 = _ := hR 13 (by decide)
              have k0 := keep_cell hI P0
              have k1 := keep_cell hI P1
              have k2 := keep_cell hI P2
              have HI := Lib.hid hI
              clear hI hst hR
              rw [e13]
              clear e13
              go_wp2
              exact ⟨rfl, _, rfl, rfl, HI.out, fun _ _ h => h⟩
            · refine Owes.mkG _ _ rfl rfl (fun _ _ h => by cases h) fun u m w' hm hI hR => ⟨⟨#[undef, undef, undef, undef, undef, undef, undef, undef, undef, undef, undef, undef, undef, undef, undef, undef, undef, undef, undef, undef, undef, undef, undef, undef, undef, undef, undef, undef, undef, undef, undef, undef, undef, undef, undef, undef, undef, undef, undef, undef, undef, undef, undef, undef, undef, undef, undef, undef, undef, undef, undef, undef, undef, undef, undef, undef, undef, undef, undef, undef, undef, undef, undef, undef, undef, u 14, undef, undef, undef, undef, undef, undef, undef, undef, undef, undef, undef, undef, undef, undef, undef, undef, undef, undef, undef, undef], []⟩, rfl, fun d hd => by cases hd; exact (by decide : 66 < 86), ?_⟩
              have e14 : u 14 = _ := hR 14 (by decide)
              have k0 := keep_cell hI P0
              have k1 := keep_cell hI P1
              have k2 := keep_cell hI P2
              have HI := Lib.hid hI
              clear hI hst hR
              rw [e14]
              clear e14
              go_wp2
              exact ⟨rfl, _, rfl, rfl, HI.out, fun _ _ h => h⟩
            · refine Owes.mkG _ _ rfl rfl (fun _ _ h => by cases h) fun u m w' hm hI hR => ⟨⟨#[undef, undef, undef, .pointer (some ⟨w1.heap.size, 0, none⟩), undef, undef, undef, undef, undef, undef, undef, undef, undef, undef, undef, undef, undef, undef, undef, undef, undef, undef, undef, undef, undef, undef, undef, undef, undef, undef, undef, undef, undef, undef, undef, undef, undef, undef, undef, undef, undef, undef, undef, undef, undef, undef, undef, undef, undef, undef, undef, undef, undef, undef, undef, undef, undef, undef, undef, undef, undef, undef, undef, undef, undef, undef, undef, undef, undef, undef, undef, undef, undef, undef, undef, undef, undef, undef, undef, undef, undef, undef, undef, undef, undef, undef], []⟩, rfl, fun d hd => by cases hd; exact (by decide : 67 < 86), ?_⟩
              have k0 := keep_cell hI P0
              have k1 := keep_cell hI P1
              have k2 := keep_cell hI P2
              have HI := Lib.hid hI
              clear hI hst hR
              go_wp2
              exact ⟨rfl, _, rfl, rfl, HI.out, fun _ _ h => h⟩
            · refine Owes.mkG _ _ rfl rfl (fun _ _ h => by cases h) fun u m w' hm hI hR => ⟨⟨#[undef, undef, undef, undef, undef, undef, undef, undef, undef, undef, undef, undef, undef, undef, undef, undef, undef, undef, undef, undef, undef, undef, undef, undef, undef, undef, undef, undef, undef, undef, undef, undef, undef, undef, undef, undef, undef, undef, undef, undef, undef, undef, undef, undef, undef, undef, undef, undef, undef, undef, undef, undef, undef, undef, undef, undef, undef, undef, undef, undef, undef, undef, undef, undef, undef, undef, undef, u 16, undef, undef, undef, undef, undef, undef, undef, undef, undef, undef, undef, undef, undef, undef, undef, undef, undef, undef], []⟩, rfl, fun d hd => by cases hd; exact (by decide : 68 < 86), ?_⟩
              have e16 : u 16 = _ := hR 16 (by decide)
              have k0 := keep_cell hI P0
              have k1 := keep_cell hI P1
              have k2 := keep_cell hI P2
              have HI := Lib.hid hI
              clear hI hst hR
              rw [e16]
              clear e16
              go_wp2
              exact ⟨rfl, _, rfl, rfl, HI.out, fun _ _ h => h⟩
            · refine Owes.mkG _ _ rfl rfl (fun _ _ h => by cases h) fun u m w' hm hI hR => ⟨⟨#[undef, undef, undef, undef, undef, undef, undef, undef, undef, undef, undef, undef, undef, undef, undef, undef, undef, undef, undef, undef, undef, undef, undef, undef, undef, undef, undef, undef, undef, undef, undef, undef, undef, undef, undef, undef, undef, undef, undef, undef, undef, undef, undef, undef, undef, undef, undef, undef, undef, undef, undef, undef, undef, undef, undef, undef, undef, undef, undef, undef, undef, undef, undef, u 12, undef, undef, u 15, undef, u 17, undef, undef, undef, undef, undef, undef, undef, undef, undef, undef, undef, undef, undef, undef, undef, undef, undef], []⟩, rfl, fun d hd => by cases hd; exact (by decide : 69 < 86), ?_⟩
              have e12 : u 12 = _ := hR 12 (by decide)
              have e15 : u 15 = _ := hR 15 (by decide)
              have e17 : u 17 = _ := hR 17 (by decide)
              have k0 := keep_cell hI P0
              have k1 := keep_cell hI P1
              have k2 := keep_cell hI P2
              have HI := Lib.hid hI
              clear hI hst hR
              rw [e12, e15, e17]
              clear e12 e15 e17
              go_wp2
              exact ⟨rfl, _, rfl, rfl, HI.out, fun _ _ h => h⟩
            · refine Owes.mkG _ _ rfl rfl (fun _ _ h => by cases h) fun u m w' hm hI hR => ⟨⟨#[undef, undef, undef, undef, undef, undef, undef, undef, undef, undef, undef, undef, undef, undef, undef, undef, undef, undef, undef, undef, undef, undef, undef, undef, undef, undef, undef, undef, undef, undef, undef, undef, undef, undef, undef, undef, undef, undef, undef, undef, undef, undef, undef, undef, undef, undef, undef, undef, undef, undef, undef, undef, undef, undef, undef, undef, undef, undef, undef, undef, undef, undef, undef, undef, undef, undef, undef, undef, undef, u 18, undef, undef, undef, undef, undef, undef, undef, undef, undef, undef, undef, undef, undef, undef, undef, undef], []⟩, rfl, fun d hd => by cases hd; exact (by decide : 70 < 86), ?_⟩
              have e18 : u 18 = _ := hR 18 (by decide)
              have k0 := keep_cell hI P0
              have k1 := keep_cell hI P1
              have k2 := keep_cell hI P2
              rw [e18]
              clear e18
              have HX0 := Lib.hid (SlR.below boolR_fits S0.out hI)
              have HX1 := Lib.hid (SlR.below boolR_fits D1.out hI)
              have HX2 := Lib.hid (SlR.below boolR_fits S2.out hI)
              go_wp2_with fail
              refine (iInOk_any ⟨x.ready, x.stall.drop 1, x.send⟩ _ _ _ _ _ _ _ HX0.out HX1.out HX2.out).mono ?_
              rw [bad1 HBB.out.symm]
              rintro e w7 ⟨rfl, b7⟩
              have HS := Lib.hid (facts_stable hst (b7.chg []))
              have HI := Lib.hid (hI.trans (b7.mono hI.size))
              clear hI b7 hst hR
              go_wp2
              exact ⟨rfl, _, rfl, rfl, HI.out, HS.out⟩
            · refine Owes.mkG _ _ rfl rfl (fun _ _ h => by cases h) fun u m w' hm hI hR => ⟨⟨#[undef, undef, undef, undef, undef, undef, undef, undef, undef, undef, undef, undef, undef, undef, undef, undef, undef, undef, undef, undef, undef, undef, undef, undef, undef, undef, undef, undef, undef, undef, undef, undef, undef, undef, undef, undef, undef, undef, undef, undef, undef, undef, undef, undef, undef, undef, undef, undef, undef, undef, undef, undef, undef, undef, undef, undef, undef, undef, undef, undef, undef, undef, undef, undef, undef, undef, undef, undef, undef, undef, u 19, undef, undef, undef, undef, undef, undef, undef, undef, undef, undef, undef, undef, undef, undef, undef], []⟩, rfl, fun d hd => by cases hd; exact (by decide : 71 < 86), ?_⟩
              have e19 : u 19 = _ := hR 19 (by decide)
              have k0 := keep_cell hI P0
              have k1 := keep_cell hI P1
              have k2 := keep_cell hI P2
              have HI := Lib.hid hI
              clear hI hst hR
              rw [e19]
              clear e19
              go_wp2
              exact ⟨rfl, _, rfl, rfl, HI.out, fun _ _ h => h⟩
            · refine Owes.mk _ rfl rfl (fun _ _ h => by cases h) fun u m w' hm hI hR => ⟨⟨#[undef, undef, undef, undef, undef, undef, undef, undef, undef, undef, undef, undef, undef, undef, undef, undef, undef, undef, undef, undef, undef, undef, undef, undef, undef, undef, undef, undef, undef, undef, undef, undef, undef, undef, undef, undef, undef, undef, undef, undef, undef, undef, undef, undef, undef, undef, undef, undef, undef, undef, undef, undef, undef, undef, undef, undef, undef, undef, undef, undef, undef, u 10, undef, undef, undef, undef, undef, undef, undef, undef, undef, u 20, undef, undef, undef, undef, undef, undef, undef, undef, undef, undef, undef, undef, undef, undef], []⟩, rfl, fun d hd => by cases hd; exact (by decide : 72 < 86), ?_⟩
              have e10 : u 10 = _ := hR 10 (by decide)
              have e20 : u 20 = _ := hR 20 (by decide)
              have k0 := keep_cell hI P0
              have k1 := keep_cell hI P1
              have k2 := keep_cell hI P2
              have HI := Lib.hid hI
              clear hI hst hR
              rw [e10, e20]
              clear e10 e20
              go_wp2
              exact ⟨rfl, _, rfl, rfl, HI.out, fun _ _ h => h⟩
            · refine Owes.mk _ rfl rfl (fun _ _ h => by cases h) fun u m w' hm hI hR => ⟨⟨#[undef, undef, undef, undef, undef, undef, undef, undef, undef, undef, undef, undef, undef, undef, undef, undef, undef, undef, undef, undef, undef, undef, undef, undef, undef, undef, undef, undef, undef, undef, undef, undef, undef, undef, undef, undef, undef, undef, undef, undef, undef, undef, undef, undef, undef, undef, undef, undef, undef, undef, undef, undef, undef, undef, undef, undef, undef, undef, undef, undef, undef, undef, undef, undef, undef, undef, undef, undef, undef, undef, undef, undef, u 21, undef, undef, undef, undef, undef, undef, undef, undef, undef, undef, undef, undef, undef], []⟩, rfl, fun d hd => by cases hd; exact (by decide : 73 < 86), ?_⟩
              have e21 : u 21 = _ := hR 21 (by decide)
              have k0 := keep_cell hI P0
              have k1 := keep_cell hI P1
              have k2 := keep_cell hI P2
              have HI := Lib.hid hI
              clear hI hst hR
              rw [e21]
              clear e21
              go_wp2
              exact ⟨rfl, _, rfl, rfl, HI.out, fun _ _ h => h⟩
            · refine Owes.mkG _ _ rfl rfl (fun _ _ h => by cases h) fun u m w' hm hI hR => ⟨⟨#[undef, undef, undef, .pointer (some ⟨w1.heap.size, 0, none⟩), undef, undef, undef, undef, undef, undef, undef, undef, undef, undef, undef, undef, undef, undef, undef, undef, undef, undef, undef, undef, undef, undef, undef, undef, undef, undef, undef, undef, undef, undef, undef, undef, undef, undef, undef, undef, undef, undef, undef, undef, undef, undef, undef, undef, undef, undef, undef, undef, undef, undef, undef, undef, undef, undef, undef, undef, undef, undef, undef, undef, undef, undef, undef, undef, undef, undef, undef, undef, undef, undef, undef, undef, undef, undef, undef, undef, undef, undef, undef, undef, undef, undef], []⟩, rfl, fun d hd => by cases hd; exact (by decide : 74 < 86), ?_⟩
              have k0 := keep_cell hI P0
              have k1 := keep_cell hI P1
              have k2 := keep_cell hI P2
              have HI := Lib.hid hI
              clear hI hst hR
              go_wp2
              exact ⟨rfl, _, rfl, rfl, HI.out, fun _ _ h => h⟩
            · refine Owes.mkG _ _ rfl rfl (fun _ _ h => by cases h) fun u m w' hm hI hR => ⟨⟨#[undef, undef, undef, undef, undef, undef, undef, undef, undef, undef, undef, undef, undef, undef, undef, undef, undef, undef, undef, undef, undef, undef, undef, undef, undef, undef, undef, undef, undef, undef, undef, undef, undef, undef, undef, undef, undef, undef, undef, undef, undef, undef, undef, undef, undef, undef, undef, undef, undef, undef, undef, undef, undef, undef, undef, undef, undef, undef, undef, undef, undef, undef, undef, undef, undef, undef, undef, undef, undef, undef, undef, undef, undef, undef, u 23, undef, undef, undef, undef, undef, undef, undef, undef, undef, undef, undef], []⟩, rfl, fun d hd => by cases hd; exact (by decide : 75 < 86), ?_⟩
              have e23 : u 23 = _ := hR 23 (by decide)
              have k0 := keep_cell hI P0
              have k1 := keep_cell hI P1
              have k2 := keep_cell hI P2
              have HI := Lib.hid hI
              clear hI hst hR
              rw [e23]
              clear e23
              go_wp2
              exact ⟨rfl, _, rfl, rfl, HI.out, fun _ _ h => h⟩
            · refine Owes.mkG _ _ rfl rfl (fun _ _ h => by cases h) fun u m w' hm hI hR => ⟨⟨#[undef, undef, undef, .pointer (some ⟨w1.heap.size, 0, none⟩), undef, undef, undef, undef, undef, undef, undef, undef, undef, undef, undef, undef, undef, undef, undef, undef, undef, undef, undef, undef, undef, undef, undef, undef, undef, undef, undef, undef, undef, undef, undef, undef, undef, undef, undef, undef, undef, undef, undef, undef, undef, undef, undef, undef, undef, undef, undef, undef, undef, undef, undef, undef, undef, undef, undef, undef, undef, undef, undef, undef, undef, undef, undef, undef, undef, undef, undef, undef, undef, undef, undef, undef, undef, undef, undef, undef, undef, undef, undef, undef, undef, undef], []⟩, rfl, fun d hd => by cases hd; exact (by decide : 76 < 86), ?_⟩
              have k0 := keep_cell hI P0
              have k1 := keep_cell hI P1
              have k2 := keep_cell hI P2
              have HI := Lib.hid hI
              clear hI hst hR
              go_wp2
              exact ⟨rfl, _, rfl, rfl, HI.out, fun _ _ h => h⟩
            · refine Owes.mkG _ _ rfl rfl (fun _ _ h => by cases h) fun u m w' hm hI hR => ⟨⟨#[undef, undef, undef, undef, undef, undef, undef, undef, undef, undef, undef, undef, undef, undef, undef, undef, undef, undef, undef, undef, undef, undef, undef, undef, undef, undef, undef, undef, undef, undef, undef, undef, undef, undef, undef, undef, undef, undef, undef, undef, undef, undef, undef, undef, undef, undef, undef, undef, undef, undef, undef, undef, undef, undef, undef, undef, undef, undef, undef, undef, undef, undef, undef, undef, undef, undef, undef, undef, undef, undef, undef, undef, undef, undef, undef, undef, u 25, undef, undef, undef, undef, undef, undef, undef, undef, undef], []⟩, rfl, fun d hd => by cases hd; exact (by decide : 77 < 86), ?_⟩
              have e25 : u 25 = _ := hR 25 (by decide)
              have k0 := keep_cell hI P0
              have k1 := keep_cell hI P1
              have k2 := keep_cell hI P2
              have HI := Lib.hid hI
              clear hI hst hR
              rw [e25]
              clear e25
              go_wp2
              exact ⟨rfl, _, rfl, rfl, HI.out, fun _ _ h => h⟩
            · refine Owes.mkG _ _ rfl rfl (fun _ _ h => by cases h) fun u m w' hm hI hR => ⟨⟨#[undef, undef, undef, undef, undef, undef, undef, undef, undef, undef, undef, undef, undef, undef, undef, undef, undef, undef, undef, undef, undef, undef, undef, undef, undef, undef, undef, undef, undef, undef, undef, undef, undef, undef, undef, undef, undef, undef, undef, undef, undef, undef, undef, undef, undef, undef, undef, undef, undef, undef, undef, undef, undef, undef, undef, undef, undef, undef, undef, undef, undef, undef, undef, undef, undef, undef, undef, undef, undef, undef, undef, undef, undef, undef, undef, undef, undef, undef, undef, undef, undef, undef, undef, undef, undef, undef], []⟩, rfl, fun d hd => by cases hd; exact (by decide : 78 < 86), ?_⟩
              have k0 := keep_cell hI P0
              have k1 := keep_cell hI P1
              have k2 := keep_cell hI P2
              have HI := Lib.hid hI
              have HS := Lib.hid (facts_stable hst ((below_alloc w' (.cells #[.bool true] 4)).chg []))
              clear hI hst hR
              go_wp2
              exact ⟨rfl, _, rfl, ⟨_, rfl, alloc1_new _ _ _ 0 rfl⟩, HI.out.trans ((below_alloc _ _).mono HI.out.size), HS.out⟩
            · refine Owes.mkG _ _ rfl rfl (fun _ _ h => by cases h) fun u m w' hm hI hR => ⟨⟨#[undef, undef, undef, .pointer (some ⟨w1.heap.size, 0, none⟩), undef, undef, undef, undef, undef, undef, undef, undef, undef, undef, undef, undef, undef, undef, undef, undef, undef, undef, undef, undef, undef, undef, undef, undef, undef, undef, undef, undef, undef, undef, undef, undef, undef, undef, undef, undef, undef, undef, undef, undef, undef, undef, undef, undef, undef, undef, undef, undef, undef, undef, undef, undef, undef, undef, undef, undef, undef, undef, undef, undef, undef, undef, undef, undef, undef, undef, undef, undef, undef, undef, undef, undef, undef, undef, undef, undef, undef, undef, undef, undef, undef, undef], []⟩, rfl, fun d hd => by cases hd; exact (by decide : 79 < 86), ?_⟩
              have k0 := keep_cell hI P0
              have k1 := keep_cell hI P1
              have k2 := keep_cell hI P2
              have HI := Lib.hid hI
              clear hI hst hR
              go_wp2
              exact ⟨rfl, _, rfl, rfl, HI.out, fun _ _ h => h⟩
            · refine Owes.mkG _ _ rfl rfl (fun _ _ h => by cases h) fun u m w' hm hI hR => ⟨⟨#[undef, undef, undef, undef, undef, undef, undef, undef, undef, undef, undef, undef, undef, undef, undef, undef, undef, undef, undef, undef, undef, undef, undef, undef, undef, undef, undef, undef, undef, undef, undef, undef, undef, undef, undef, undef, undef, undef, undef, undef, undef, undef, undef, undef, undef, undef, undef, undef, undef, undef, undef, undef, undef, undef, undef, undef, undef, undef, undef, undef, undef, undef, undef, undef, undef, undef, undef, undef, undef, undef, undef, undef, undef, undef, undef, undef, undef, undef, undef, u 28, undef, undef, undef, undef, undef, undef], []⟩, rfl, fun d hd => by cases hd; exact (by decide : 80 < 86), ?_⟩
              have e28 : u 28 = _ := hR 28 (by decide)
              have k0 := keep_cell hI P0
              have k1 := keep_cell hI P1
              have k2 := keep_cell hI P2
              have HI := Lib.hid hI
              clear hI hst hR
              rw [e28]
              clear e28
              go_wp2
              exact ⟨rfl, _, rfl, rfl, HI.out, fun _ _ h => h⟩
            · refine Owes.mkG _ _ rfl rfl (fun _ _ h => by cases h) fun u m w' hm hI hR => ⟨⟨#[undef, undef, undef, undef, undef, undef, undef, undef, undef, undef, undef, undef, undef, undef, undef, undef, undef, undef, undef, undef, undef, undef, undef, undef, undef, undef, undef, undef, undef, undef, undef, undef, undef, undef, undef, undef, undef, undef, undef, undef, undef, undef, undef, undef, undef, undef, undef, undef, undef, undef, undef, undef, undef, undef, undef, undef, undef, undef, undef, undef, undef, undef, undef, undef, undef, undef, undef, undef, undef, undef, undef, undef, undef, undef, undef, undef, undef, undef, u 27, undef, u 29, undef, undef, undef, undef, undef], []⟩, rfl, fun d hd => by cases hd; exact (by decide : 81 < 86), ?_⟩
              have e29 : u 29 = _ := hR 29 (by decide)
              have k0 := keep_cell hI P0
              have k1 := keep_cell hI P1
              have k2 := keep_cell hI P2
              rw [e29]
              clear e29
              obtain ⟨gq, e27, c27⟩ := hR 27 (by decide)
              rw [e27]
              have HS2 := SlR.flat_cells BoolC_len (by decide) (SlR.below boolR_fits S2.out hI)
              refine wpList_append_full (K := 1) (c := BoolC) (olds := [true]) (news := x.send) (m := 3) rfl _ _ 84 4 i0 (.bool false) 1 BoolC_len rfl Try.underlying84 ki kz0 kz1 kz2 rfl (by decide) rfl rfl rfl (fun j u hj => by have hj0 : j = 0 := by {have := (List.getElem?_eq_some_iff.1 hj).1; simpa [BoolC] using this}; subst hj0; simp [BoolC] at hj; subst hj; exact c27) L2.out (by decide) HS2 (by decide) (by decide) ?_
              intro v' w7 ho b7
              obtain ⟨f7, s7, _⟩ := boolRow_reads ho
              have HX := Lib.hid s7
              have HS := Lib.hid (facts_stable hst (b7.chg []))
              have HI := Lib.hid (hI.trans (b7.mono hI.size))
              clear hI b7 hst hR HS2 ho s7
              go_wp2
              exact ⟨rfl, _, rfl, ⟨_, HX.out⟩, HI.out, HS.out⟩
            · refine Owes.mkG _ _ rfl rfl (fun _ _ h => by cases h) fun u m w' hm hI hR => ⟨⟨#[undef, undef, undef, undef, undef, undef, undef, undef, undef, undef, undef, undef, undef, undef, undef, undef, undef, undef, undef, undef, undef, undef, undef, undef, undef, undef, undef, undef, undef, undef, undef, undef, undef, undef, undef, undef, undef, undef, undef, undef, undef, undef, undef, undef, undef, undef, undef, undef, undef, undef, undef, undef, undef, undef, undef, undef, undef, undef, undef, undef, undef, undef, undef, undef, undef, undef, undef, undef, undef, undef, undef, undef, undef, undef, undef, u 24, undef, u 26, undef, undef, undef, u 30, undef, undef, undef, undef], []⟩, rfl, fun d hd => by cases hd; exact (by decide : 82 < 86), ?_⟩
              have e24 : u 24 = _ := hR 24 (by decide)
              have e26 : u 26 = _ := hR 26 (by decide)
              have k0 := keep_cell hI P0
              have k1 := keep_cell hI P1
              have k2 := keep_cell hI P2
              rw [e24, e26]
              clear e24 e26
              obtain ⟨f30, h30⟩ := hR 30 (by decide)
              obtain ⟨av, nv, cv, e30⟩ := h30.form
              rw [e30] at h30 ⊢
              have HX := Lib.hid h30
              have HI := Lib.hid hI
              clear hI hst hR h30 e30
              go_wp2
              exact ⟨rfl, _, rfl, ⟨_, _, rfl, HX.out⟩, HI.out, fun _ _ h => h⟩
            · refine Owes.mkG _ _ rfl rfl (fun _ _ h => by cases h) fun u m w' hm hI hR => ⟨⟨#[undef, undef, undef, undef, undef, undef, undef, undef, undef, undef, undef, undef, undef, undef, undef, undef, undef, undef, undef, undef, undef, undef, undef, undef, undef, undef, undef, undef, undef, undef, undef, undef, undef, undef, undef, undef, undef, undef, undef, undef, undef, undef, undef, undef, undef, undef, undef, undef, undef, undef, undef, undef, undef, undef, undef, undef, undef, undef, undef, undef, undef, undef, undef, undef, undef, undef, undef, undef, undef, undef, undef, undef, undef, undef, undef, undef, undef, undef, undef, undef, undef, undef, u 31, undef, undef, undef], []⟩, rfl, fun d hd => by cases hd; exact (by decide : 83 < 86), ?_⟩
              have k0 := keep_cell hI P0
              have k1 := keep_cell hI P1
              have k2 := keep_cell hI P2
              obtain ⟨v', f', e31, h31⟩ := hR 31 (by decide)
              rw [e31]
              have HX0 := Lib.hid (SlR.below boolR_fits S0.out hI)
              have HX1 := Lib.hid (SlR.below boolR_fits S1.out hI)
              have HX2 := Lib.hid h31
              go_wp2_with fail
              refine (iInOk_any ⟨x.ready, x.stall, true :: x.send⟩ _ _ _ _ _ _ _ HX0.out HX1.out HX2.out).mono ?_
              rw [bad2 HBB.out.symm]
              rintro e w7 ⟨rfl, b7⟩
              have HS := Lib.hid (facts_stable hst (b7.chg []))
              have HI := Lib.hid (hI.trans (b7.mono hI.size))
              clear hI b7 hst hR
              go_wp2
              exact ⟨rfl, _, rfl, rfl, HI.out, HS.out⟩
            · refine Owes.mkG _ _ rfl rfl (fun _ _ h => by cases h) fun u m w' hm hI hR => ⟨⟨#[undef, undef, undef, undef, undef, undef, undef, undef, undef, undef, undef, undef, undef, undef, undef, undef, undef, undef, undef, undef, undef, undef, undef, undef, undef, undef, undef, undef, undef, undef, undef, undef, undef, undef, undef, undef, undef, undef, undef, undef, undef, undef, undef, undef, undef, undef, undef, undef, undef, undef, undef, undef, undef, undef, undef, undef, undef, undef, undef, undef, undef, undef, undef, undef, undef, undef, undef, undef, undef, undef, undef, undef, undef, undef, undef, undef, undef, undef, undef, undef, undef, undef, undef, u 32, undef, undef], []⟩, rfl, fun d hd => by cases hd; exact (by decide : 84 < 86), ?_⟩
              have e32 : u 32 = _ := hR 32 (by decide)
              have k0 := keep_cell hI P0
              have k1 := keep_cell hI P1
              have k2 := keep_cell hI P2
              have HI := Lib.hid hI
              clear hI hst hR
              rw [e32]
              clear e32
              go_wp2
              exact ⟨rfl, _, rfl, rfl, HI.out, fun _ _ h => h⟩
            · refine Owes.mk _ rfl rfl (fun _ _ h => by cases h) fun u m w' hm hI hR => ⟨⟨#[undef, undef, undef, undef, undef, undef, undef, undef, undef, undef, undef, undef, undef, undef, undef, undef, undef, undef, undef, undef, undef, undef, undef, undef, undef, undef, undef, undef, undef, undef, undef, undef, undef, undef, undef, undef, undef, undef, undef, undef, undef, undef, undef, undef, undef, undef, undef, undef, undef, undef, undef, undef, undef, undef, undef, undef, undef, undef, undef, undef, undef, undef, undef, undef, undef, undef, undef, undef, undef, undef, undef, undef, undef, u 22, undef, undef, undef, undef, undef, undef, undef, undef, undef, undef, u 33, undef], []⟩, rfl, fun d hd => by cases hd; exact (by decide : 85 < 86), ?_⟩
              have e22 : u 22 = _ := hR 22 (by decide)
              have e33 : u 33 = _ := hR 33 (by decide)
              have k0 := keep_cell hI P0
              have k1 := keep_cell hI P1
              have k2 := keep_cell hI P2
              have HI := Lib.hid hI
              clear hI hst hR
              rw [e22, e33]
              clear e22 e33
              go_wp2
              exact ⟨rfl, _, rfl, rfl, HI.out, fun _ _ h => h⟩
            · refine Owes.mk _ rfl rfl (fun _ _ h => by cases h) fun u m w' hm hI hR => ⟨⟨#[undef, undef, undef, undef, undef, undef, undef, undef, undef, undef, undef, undef, undef, undef, undef, undef, undef, undef, undef, undef, undef, undef, undef, undef, undef, undef, undef, undef, undef, undef, undef, undef, undef, undef, undef, undef, undef, undef, undef, undef, undef, undef, undef, undef, undef, undef, undef, undef, undef, undef, undef, undef, undef, undef, undef, undef, undef, undef, undef, undef, undef, undef, undef, undef, undef, undef, undef, undef, undef, undef, undef, undef, undef, undef, undef, undef, undef, undef, undef, undef, undef, undef, undef, undef, undef, u 34], []⟩, rfl, fun d hd => by cases hd; exact (by decide : 2 < 86), ?_⟩
              have e34 : u 34 = _ := hR 34 (by decide)
              have k0 := keep_cell hI P0
              have k1 := keep_cell hI P1
              have k2 := keep_cell hI P2
              have HI := Lib.hid hI
              clear hI hst hR
              rw [e34]
              clear e34
              go_wp2
              exact ⟨rfl, _, rfl, rfl, HI.out, fun _ _ h => h⟩
          case hend =>
            intro u w' hI hR
            simp only [setAll, List.set_cons_zero, List.set_cons_succ]
            unfold wpList
            have e35 : u 35 = .bool true := hR 35 (by decide)
            rw [e35]
            have HI := Lib.hid (B1.out.trans (hI.mono B1.out.size))
            clear hR hst e35 hI
            go_wp2
            go_ret
            exact ⟨rfl, HI.out⟩

set_option maxRecDepth 100000 in
theorem lifted (os : Os) (started : os.Started) (H : Type) (enc : TypeId × Value → H) :
    ReturnsInHanded {} Try.checked os 10 .any (Rows.fnInOkSpec.pre6 enc Try.prog Try.f10 Rows.fnInOkRow.domain false) (Rows.fnInOkSpec.post enc Try.prog Try.f10 false true false false) := by
  refine returnsInHanded_of_change (C := Try.checked) own started (by kernel_rfl) Try.func10
    (ChangeSpec.witness6 (enc := enc) (C := Try.checked) false ⟨#[], #[.slice none 0 0], []⟩ 8 (by kernel_rfl) (by kernel_rfl) (by kernel_rfl) (by kernel_rfl)) ?_
  intro W base args ds gs before hval0 hW hcnd _
  have hval : ∀ (j : Nat) t v, Try.f10.params[j]? = some t → args[j]? = some v → Value.okWide Try.prog W .any base t v := hval0
  have hW' := hW
  obtain ⟨p, q, hA0, hV, rfl, hfz, hnd⟩ := hW
  have hA : DataW.TrodAll enc Try.prog W 0 (fun _ => true) true Try.f10.params.toList args.toList ds p := hA0
  rw [Try.params10] at hA hval
  obtain ⟨v0, vs0, d0, ds0, p0, q0, hargs, rfl, rfl, h0, r0⟩ := trodAll_cons hA
  obtain ⟨rfl, rfl, rfl⟩ := trodAll_nil r0
  obtain rfl : args = #[v0] := by cases args; simp_all
  obtain ⟨rfl, rfl⟩ := trodVars_none hV
  clear hA0 hval0
  simp only [List.append_nil] at hW'
  have hlt0 : ∀ x ∈ p0, x.block < W.heap.size := fun x hx => by simpa using hW'.lt x (by simp [hx])
  have hk0 := h0
  obtain ⟨ad0, len0, cap0, rfl⟩ := okWide_slice Try.underlying73 (hval 0 73 v0 rfl rfl)
  obtain ⟨fuel0, hf0⟩ := h0
  obtain ⟨x0, fp0, y0, e0, g0⟩ := (opens_slice Try.underlying73 (by kernel_rfl) (by decide) (opens_byte Try.underlying5) byteR_fits) hf0
  obtain rfl : .slice ad0 len0 cap0 = y0 := by simpa [Value.cells] using e0
  refine (walk (.slice ad0 len0 cap0) x0 fp0 W g0).mono fun e W' ⟨he, hb⟩ => ?_
  subst he
  exact ⟨_, rfl, _, _, _, [], _, [], hW', (trodAll_cons_mk (shut_bool Try.underlying4 _) trodAll_mk0), (trodAll_cons_mk (Below.trod laidOut (by kernel_rfl) (of_decide_eq_true (by kernel_rfl)) hk0 hb hlt0) trodAll_mk0), rfl, hb.frame _, fun h => by cases h⟩

theorem over : Rows.fnInOkRow.holds Try.pinned (OpenSpec.ofChange Rows.fnInOkSpec) :=
  OpenClaim.holds_of_wide 10 Try.f10 rfl rfl rfl rfl rfl rfl rfl ⟨rfl, rfl, rfl, rfl, rfl⟩ rfl rfl rfl rfl rfl (by kernel_rfl) Try.func10 (by kernel_rfl)
    (of_decide_eq_true (by kernel_rfl)) (by unfold Func.isWrapper; first | (rw [if_pos (by decide +kernel)]; kernel_rfl) | (rw [if_neg (by decide +kernel)]; exact ⟨rfl, rfl⟩))
    (fun os started H enc _ => lifted os started H enc)

theorem proved : Rows.FnInOkSaid :=
  over
#print axioms proved
end Go.Proofs.Ytmmojgopeaelcaa.fnInOk