/-
  Proved: the Go function laws.FnAdrWrap returns true for every code, and the code reads afterwards as before: adrBurst round about of two addresses of one block has the same addresses; and of one behind the other, at a multiple of how many they are, it is that of round about.
  Conditions: none.
-/
import Derived.Test.YtlamjbcacminmaaLift
import Derived.Test.YtlamjbcacminmaaDAdrBurst
import Derived.Test.YtlamjbcacminmaaBurst
import Derived.Test.YtlamjbcacminmaaCr
namespace Go.Proofs.Ytlamjbcacminmaa.fnAdrWrap
set_option linter.unusedVariables false
set_option linter.unusedSimpArgs false
open Go.ChangeShapes Go.WideShapes Go.ChangeAt Go.RowKit

theorem three {a : Int} {q : Nat} {b : Bool} (h : adrOk a q b = true) : 0 ≤ a ∧ a ≤ 63 ∧ (q = 1 ∨ q = 2 ∨ q = 4) := by
  have := adrOk_true.1 h
  omega
theorem block_ok {a : Int} {q : Nat} (h : adrOk a q true = true) (k : Nat) (hk : k < q) : adrOk (a - a % (q : Int) + k) q true = true := by
  obtain ⟨h1, h2, h3⟩ := three h
  refine adrOk_true.2 ⟨?_, ?_, by omega, .inl rfl⟩
  · rcases h3 with rfl | rfl | rfl <;> omega
  · rcases h3 with rfl | rfl | rfl <;> omega
theorem block_ok2 {a : Int} {q : Nat} (h : adrOk a q true = true) (b : Bool) : adrOk (a - a % (q : Int)) q b = true := by
  obtain ⟨h1, h2, h3⟩ := three h
  refine adrOk_true.2 ⟨?_, ?_, by omega, .inr ?_⟩
  all_goals rcases h3 with rfl | rfl | rfl <;> omega
theorem block_in {a : Int} {q : Nat} (h : adrOk a q true = true) (k j : Nat) (hk : k < q) (hj : j < q) : bval a q true j ∈ burst (a - a % (q : Int) + k) q true := by
  obtain ⟨h1, h2, h3⟩ := three h
  unfold burst
  rw [List.mem_map]
  refine ⟨((a + j - (a - a % (q : Int) + k)) % (q : Int)).toNat, ?_, ?_⟩
  · rw [List.mem_range]
    rcases h3 with rfl | rfl | rfl <;> omega
  · unfold bval
    rcases h3 with rfl | rfl | rfl <;> simp <;> omega
theorem block_same {a : Int} {q : Nat} (h : adrOk a q true = true) : burst (a - a % (q : Int)) q false = burst (a - a % (q : Int)) q true := by
  obtain ⟨h1, h2, h3⟩ := three h
  unfold burst
  refine List.map_congr_left fun i hi => ?_
  rw [List.mem_range] at hi
  unfold bval
  rcases h3 with rfl | rfl | rfl <;> simp <;> omega
theorem adrBurst_yes {a : Int} {q : Nat} {b : Bool} (h : adrOk a q b = true) : adrBurst a q b = burst a q b := by
  unfold adrBurst
  rw [if_pos h]
  rfl

set_option maxRecDepth 100000 in
set_option maxHeartbeats 6400000 in
theorem walk (v : Value) (l0 : List Int) (fp0 : List Nat) (w : World) (g : ByteS w l0 v fp0) :
    Calls Try.prog 5 #[v] w fun e w' => e = .returned (.bool true) ∧ Below w.heap.size w w' := by
  obtain ⟨a0, n0, c0, rfl, hn0, hcap0, hmax0, hcm0, _⟩ := g.opened
  have G := Lib.hid g
  clear g
  by_cases hb : 1048576 < n0
  · go_enter Try.func5, Try.ntmps5
    go_wp2
    go_ret
    exact ⟨rfl, Below.refl _ _⟩
  · go_enter Try.func5, Try.ntmps5
    go_wp2_with fail
    refine (drawAdrBurst_any _ l0 fp0 w G.out).mono ?_
    rintro e w1 ⟨a, m, wr, rfl, b1, ha0, ha1, hm0, hm1⟩
    have B1 := Lib.hid b1
    clear b1
    go_wp2_with fail
    refine (iAdrBurst_any a m true _).mono ?_
    rintro e w2 ⟨v2, fp2, rfl, g2, n2, b2⟩
    have G2 := Lib.hid g2
    have B2 := Lib.hid (B1.out.trans (b2.mono B1.out.size))
    obtain ⟨a2, len2, c2, rfl, hl2, hcap2, hmax2, hcm2, _⟩ := g2.opened
    clear g2 n2 b2 B1
    go_wp2_with fail
    refine (sAdrBurst_any a m true _).mono ?_
    rintro e w3 ⟨v3, fp3, rfl, g3, n3, b3⟩
    have G2b := Lib.hid (SlR.below intR_fits G2.out b3)
    have G3 := Lib.hid g3
    have B3 := Lib.hid (B2.out.trans (b3.mono B2.out.size))
    clear g3 n3 b3 B2 G2
    go_wp2_with fail
    refine (crInts_any _ _ _ _ fp2 fp3 _ G2b.out G3.out).mono ?_
    rw [decide_eq_true rfl]
    rintro e w4 ⟨rfl, nd, hw4⟩
    have b4 : Below w3.heap.size w3 w4 := by subst hw4; exact below_drewN (Below.refl _ _) nd
    have G4 := Lib.hid (SlR.below intR_fits G2b.out b4)
    have B4 := Lib.hid (B3.out.trans (b4.mono B3.out.size))
    clear b4 hw4 B3 G3 G2b
    cases hok : adrOk a m true
    · have hz : len2 = 0 := by rw [← hl2.out]; unfold adrBurst; rw [hok]; rfl
      subst hz
      clear hok
      go_wp2_with fail
      refine (crOk_any _).mono ?_
      rintro e w5 ⟨rfl, rfl⟩
      go_wp2
      go_ret
      exact ⟨rfl, B4.out⟩
    · obtain ⟨q, rfl⟩ := Int.eq_ofNat_of_zero_le (show 0 ≤ m by omega)
      have HK := Lib.hid hok
      obtain ⟨hq0, hq1, hq4⟩ := three hok
      have hqp : 0 < q := by omega
      have hqm : q ≤ 4 := by omega
      clear hok
      have hlq : len2 = q := by rw [← hl2.out, adrBurst_yes HK.out, burst_len]
      subst hlq
      rw [adrBurst_yes HK.out] at G4
      obtain ⟨a', n', c', he, hn', _, _, _, r4⟩ := IntS.opened G4.out
      simp only [Value.slice.injEq] at he
      obtain ⟨rfl, rfl, rfl⟩ := he
      have R4 := Lib.hid r4
      clear r4 hn'
      have hr0 : 0 ≤ a % (len2 : Int) := Int.emod_nonneg _ (by omega)
      have hr1 : a % (len2 : Int) ≤ a := by rcases hq4 with rfl | rfl | rfl <;> omega
      have HQ4 := Lib.hid hq4
      clear hq4
      go_wp2_with fail
      go_loopw [8] (fun i wr => ∃ k : Nat, k ≤ len2 ∧ i = .int .i64 k ∧ Below w4.heap.size w4 wr) (fun i _ => len2 - (intOf i).toNat)
      case atStart => exact ⟨0, Nat.zero_le _, rfl, Below.refl _ _⟩
      case round =>
        obtain ⟨k, hk, rfl, hbr⟩ := hrel
        have HB := Lib.hid hbr
        clear hbr
        by_cases hlt : k < len2
        · go_wp2_with fail
          refine (iAdrBurst_any (a - a % (len2 : Int) + k) len2 true _).mono ?_
          rw [adrBurst_yes (block_ok HK.out k hlt)]
          rintro e w5 ⟨v5, fp5, rfl, g5, n5, b5⟩
          have HB5 := Lib.hid (HB.out.trans (b5.mono HB.out.size))
          obtain ⟨a5, len5, c5, rfl⟩ := g5.form
          have G5 := Lib.hid g5
          clear g5 n5 b5
          go_wp2_with fail
          go_loop [10] (fun i => ∃ j : Nat, j ≤ len2 ∧ i = .int .i64 j) (fun i => len2 - (intOf i).toNat)
          case atStart => exact ⟨0, Nat.zero_le _, rfl⟩
          case round =>
            obtain ⟨j, hj, rfl⟩ := hrel
            by_cases hjl : j < len2
            · obtain ⟨i1, b1, o1, rfl, hb1, hbm, e1⟩ := R4.out j hjl
              rw [burst_at] at e1
              have d0 := keep_cell HB5.out e1
              have hin := block_in HK.out k j hlt hjl
              have HIN := Lib.hid hin
              clear hbm e1 hin
              go_wp2_with fail
              refine (crIn_any _ _ fp5 (bval a len2 true j) _ G5.out).mono ?_
              rw [decide_eq_true HIN.out]
              rintro e w6 ⟨rfl, rfl⟩
              clear d0
              go_wp2
              go_round
              case rel => exact ⟨j + 1, by omega, by go_num⟩
              case measure => simp [intOf]; omega
            · go_wp2
              go_roundw
              case rel => exact ⟨k + 1, by omega, by go_num, HB5.out⟩
              case measure => simp [intOf]; omega
        · go_wp2_with fail
          refine (iAdrBurst_any (a - a % (len2 : Int)) len2 false _).mono ?_
          rw [adrBurst_yes (block_ok2 HK.out false)]
          rintro e w5 ⟨v5, fp5, rfl, g5, n5, b5⟩
          have HB5 := Lib.hid (HB.out.trans (b5.mono HB.out.size))
          have G5 := Lib.hid g5
          obtain ⟨a5, len5, c5, rfl⟩ := g5.form
          clear g5 n5 b5
          go_wp2_with fail
          refine (iAdrBurst_any (a - a % (len2 : Int)) len2 true _).mono ?_
          rw [adrBurst_yes (block_ok2 HK.out true)]
          rintro e w6 ⟨v6, fp6, rfl, g6, n6, b6⟩
          have HB6 := Lib.hid (HB5.out.trans (b6.mono HB5.out.size))
          have G5b := Lib.hid (SlR.below intR_fits G5.out b6)
          have G6 := Lib.hid g6
          obtain ⟨a6, len6, c6, rfl⟩ := g6.form
          clear g6 n6 b6
          go_wp2_with fail
          refine (crInts_any _ _ _ _ fp5 fp6 _ G5b.out G6.out).mono ?_
          rw [decide_eq_true (block_same HK.out)]
          rintro e w7 ⟨rfl, nd7, hw7⟩
          have HB7 := Lib.hid (show Below w.heap.size w w7 from B4.out.trans (by subst hw7; exact below_drewN (HB6.out.mono B4.out.size) nd7))
          clear hw7
          go_wp2
          go_ret
          exact ⟨rfl, HB7.out⟩

set_option maxRecDepth 100000 in
theorem lifted (os : Os) (started : os.Started) (H : Type) (enc : TypeId × Value → H) :
    ReturnsInHanded {} Try.checked os 5 .any (Rows.fnAdrWrapSpec.pre6 enc Try.prog Try.f5 Rows.fnAdrWrapRow.domain false) (Rows.fnAdrWrapSpec.post enc Try.prog Try.f5 false true false false) := by
  refine returnsInHanded_of_change (C := Try.checked) own started (by kernel_rfl) Try.func5
    (ChangeSpec.witness6 (enc := enc) (C := Try.checked) false ⟨#[], #[.slice none 0 0], []⟩ 8 (by kernel_rfl) (by kernel_rfl) (by kernel_rfl) (by kernel_rfl)) ?_
  intro W base args ds gs before hval0 hW hcnd _
  have hval : ∀ (j : Nat) t v, Try.f5.params[j]? = some t → args[j]? = some v → Value.okWide Try.prog W .any base t v := hval0
  have hW' := hW
  obtain ⟨p, q, hA0, hV, rfl, hfz, hnd⟩ := hW
  have hA : DataW.TrodAll enc Try.prog W 0 (fun _ => true) true Try.f5.params.toList args.toList ds p := hA0
  rw [Try.params5] at hA hval
  obtain ⟨v0, vs0, d0, ds0, p0, q0, hargs, rfl, rfl, h0, r0⟩ := trodAll_cons hA
  obtain ⟨rfl, rfl, rfl⟩ := trodAll_nil r0
  obtain rfl : args = #[v0] := by cases args; simp_all
  obtain ⟨rfl, rfl⟩ := trodVars_none hV
  clear hA0 hval0
  simp only [List.append_nil] at hW'
  have hlt0 : ∀ x ∈ p0, x.block < W.heap.size := fun x hx => by simpa using hW'.lt x (by simp [hx])
  have hk0 := h0
  obtain ⟨ad0, len0, cap0, rfl⟩ := okWide_slice Try.underlying29 (hval 0 29 v0 rfl rfl)
  obtain ⟨fuel0, hf0⟩ := h0
  obtain ⟨x0, fp0, y0, e0, g0⟩ := (opens_slice Try.underlying29 (by kernel_rfl) (by decide) (opens_byte Try.underlying5) byteR_fits) hf0
  obtain rfl : .slice ad0 len0 cap0 = y0 := by simpa [Value.cells] using e0
  refine (walk (.slice ad0 len0 cap0) x0 fp0 W g0).mono fun e W' ⟨he, hb⟩ => ?_
  subst he
  exact ⟨_, rfl, _, _, _, [], _, [], hW', (trodAll_cons_mk (shut_bool Try.underlying4 _) trodAll_mk0), (trodAll_cons_mk (Below.trod laidOut (by kernel_rfl) (of_decide_eq_true (by kernel_rfl)) hk0 hb hlt0) trodAll_mk0), rfl, hb.frame _, fun h => by cases h⟩

theorem over : Rows.fnAdrWrapRow.holds Try.pinned (OpenSpec.ofChange Rows.fnAdrWrapSpec) :=
  OpenClaim.holds_of_wide 5 Try.f5 rfl rfl rfl rfl rfl rfl rfl ⟨rfl, rfl, rfl, rfl, rfl⟩ rfl rfl rfl rfl rfl (by kernel_rfl) Try.func5 (by kernel_rfl)
    (of_decide_eq_true (by kernel_rfl)) (by unfold Func.isWrapper; first | (rw [if_pos (by decide +kernel)]; kernel_rfl) | (rw [if_neg (by decide +kernel)]; exact ⟨rfl, rfl⟩))
    (fun os started H enc _ => lifted os started H enc)

theorem proved : Rows.FnAdrWrapSaid :=
  over
#print axioms proved
end Go.Proofs.Ytlamjbcacminmaa.fnAdrWrap
