/-
  Proved: the Go function laws.FnAdrBurst returns true for every code, and the code reads afterwards as before: adrBurst begins with its address, and has as many as there are words, none twice, all in bounds; one behind the other they rise by one; round about they are all of one block.
  Conditions: none.
-/
import Derived.Test.YtlamjbcacminmaaLift
import Derived.Test.YtlamjbcacminmaaDAdrBurst
import Derived.Test.YtlamjbcacminmaaBurst
import Derived.Test.YtlamjbcacminmaaCr
namespace Go.Proofs.Ytlamjbcacminmaa.fnAdrBurst
set_option linter.unusedVariables false
set_option linter.unusedSimpArgs false
open Go.ChangeShapes Go.WideShapes Go.ChangeAt Go.RowKit

theorem three {a : Int} {q : Nat} {b : Bool} (h : adrOk a q b = true) : 0 ≤ a ∧ a ≤ 63 ∧ (q = 1 ∨ q = 2 ∨ q = 4) := by
  have := adrOk_true.1 h
  omega
theorem one_each {a : Int} {q : Nat} {b : Bool} (h : adrOk a q b = true) {k : Nat} (hk : k < q) : bval a q b k ∉ (burst a q b).take k := by
  obtain ⟨h1, h2, h3⟩ := three h
  intro hm
  obtain ⟨j, hj, e⟩ := List.mem_iff_getElem.1 hm
  have hjk : j < k := by simp at hj; omega
  rw [List.getElem_take, burst_at] at e
  unfold bval at e
  cases b
  · simp at e; omega
  · rcases h3 with rfl | rfl | rfl <;> simp at e <;> omega
theorem first {a : Int} {q : Nat} {b : Bool} (h : adrOk a q b = true) : bval a q b 0 = a := by
  obtain ⟨h1, h2, h3⟩ := three h
  unfold bval
  cases b
  · simp
  · rcases h3 with rfl | rfl | rfl <;> simp <;> omega
theorem one_block {a : Int} {q : Nat} (h : adrOk a q true = true) {k : Nat} (hk : k < q) : bval a q true k / (q : Int) = a / (q : Int) := by
  obtain ⟨h1, h2, h3⟩ := three h
  unfold bval
  rcases h3 with rfl | rfl | rfl <;> simp <;> omega
theorem no_in (v : Value) (l : List Int) (fp : List Nat) (x : Int) (hx : x ∉ l) (w : World) (g : IntS w l v fp) :
    Calls Try.prog 27 #[v, .int .i64 x] w fun e w' => e = .returned (.bool false) ∧ w' = w :=
  (crIn_any v l fp x w g).mono fun _ _ ⟨h1, h2⟩ => ⟨by rw [h1, decide_eq_false hx], h2⟩
theorem adrBurst_yes {a : Int} {q : Nat} {b : Bool} (h : adrOk a q b = true) : adrBurst a q b = burst a q b := by
  unfold adrBurst
  rw [if_pos h]
  rfl

set_option maxRecDepth 100000 in
set_option maxHeartbeats 6400000 in
theorem walk (v : Value) (l0 : List Int) (fp0 : List Nat) (w : World) (g : ByteS w l0 v fp0) :
    Calls Try.prog 4 #[v] w fun e w' => e = .returned (.bool true) ∧ Below w.heap.size w w' := by
  obtain ⟨a0, n0, c0, rfl, hn0, hcap0, hmax0, hcm0, _⟩ := g.opened
  have G := Lib.hid g
  clear g
  by_cases hb : 1048576 < n0
  · go_enter Try.func4, Try.ntmps4
    go_wp2
    go_ret
    exact ⟨rfl, Below.refl _ _⟩
  · go_enter Try.func4, Try.ntmps4
    go_wp2_with fail
    refine (drawAdrBurst_any _ l0 fp0 w G.out).mono ?_
    rintro e w1 ⟨a, m, wb, rfl, b1, ha0, ha1, hm0, hm1⟩
    have B1 := Lib.hid b1
    clear b1
    go_wp2_with fail
    refine (iAdrBurst_any a m wb _).mono ?_
    rintro e w2 ⟨v2, fp2, rfl, g2, n2, b2⟩
    have G2 := Lib.hid g2
    have B2 := Lib.hid (B1.out.trans (b2.mono B1.out.size))
    obtain ⟨a2, len2, c2, rfl, hl2, hcap2, hmax2, hcm2, _⟩ := g2.opened
    clear g2 n2 b2 B1
    go_wp2_with fail
    refine (sAdrBurst_any a m wb _).mono ?_
    rintro e w3 ⟨v3, fp3, rfl, g3, n3, b3⟩
    have G2b := Lib.hid (SlR.below intR_fits G2.out b3)
    have G3 := Lib.hid g3
    have B3 := Lib.hid (B2.out.trans (b3.mono B2.out.size))
    clear g3 n3 b3 B2 G2
    go_wp2_with fail
    refine (crInts_any _ _ _ _ fp2 fp3 _ G2b.out G3.out).mono ?_
    rw [decide_eq_true rfl]
    rintro e w4 ⟨rfl, nd, hw4⟩
    have b4 : Below w3.heap.size w3 w4 := by subst hw4; exact below_drewN (Below.refl _ _) nd
    have G4 := Lib.hid (SlR.below intR_fits G2b.out b4)
    have B4 := Lib.hid (B3.out.trans (b4.mono B3.out.size))
    clear b4 hw4 B3 G3 G2b
    cases hok : adrOk a m wb
    · have hz : len2 = 0 := by rw [← hl2.out]; unfold adrBurst; rw [hok]; rfl
      subst hz
      have HK := Lib.hid hok
      clear hok
      go_wp2_with fail
      refine (iAdrOk_any _ _ _ _).mono ?_
      rw [HK.out]
      rintro e w5 ⟨rfl, rfl⟩
      go_wp2_with fail
      refine (sAdrOk_any _ _ _ _).mono ?_
      rw [HK.out]
      rintro e w5 ⟨rfl, rfl⟩
      go_wp2_with fail
      refine (sAdrOk_any _ _ _ _).mono ?_
      rw [HK.out]
      rintro e w5 ⟨rfl, rfl⟩
      go_wp2_with fail
      refine (crOk_any _).mono ?_
      rintro e w5 ⟨rfl, rfl⟩
      go_wp2
      go_ret
      exact ⟨rfl, B4.out⟩
    · obtain ⟨q, rfl⟩ := Int.eq_ofNat_of_zero_le (show 0 ≤ m by omega)
      have HK := Lib.hid hok
      obtain ⟨hq0, hq1, hq4⟩ := three hok
      have hqp : 0 < q := by omega
      have hqm : q ≤ 4 := by omega
      clear hok
      have hlq : len2 = q := by rw [← hl2.out, adrBurst_yes HK.out, burst_len]
      subst hlq
      rw [adrBurst_yes HK.out] at G4
      obtain ⟨a', n', c', he, hn', _, _, _, r4⟩ := IntS.opened G4.out
      simp only [Value.slice.injEq] at he
      obtain ⟨rfl, rfl, rfl⟩ := he
      have R4 := Lib.hid r4
      obtain ⟨_, b0, o0, rfl, hb0, _, e0⟩ := r4 0 hqp
      rw [burst_at, first HK.out, Nat.add_zero] at e0
      have HQ4 := Lib.hid hq4
      clear r4 hn' hq4
      go_wp2_with fail
      refine (iAdrOk_any _ _ _ _).mono ?_
      rw [HK.out]
      rintro e w5 ⟨rfl, rfl⟩
      go_wp2_with fail
      refine (sAdrOk_any _ _ _ _).mono ?_
      rw [HK.out]
      rintro e w5 ⟨rfl, rfl⟩
      go_wp2_with fail
      refine (sAdrOk_any _ _ _ _).mono ?_
      rw [HK.out]
      rintro e w5 ⟨rfl, rfl⟩
      go_wp2_with fail
      go_loopw [7] (fun i wr => ∃ k : Nat, k ≤ len2 ∧ i = .int .i64 k ∧ Below w4.heap.size w4 wr) (fun i _ => len2 - (intOf i).toNat)
      case atStart => exact ⟨0, Nat.zero_le _, rfl, Below.refl _ _⟩
      case round =>
        obtain ⟨k, hk, rfl, hbr⟩ := hrel
        have HB := Lib.hid hbr
        by_cases hlt : k < len2
        · obtain ⟨i1, b1, o1, he1, hb1, hbm, e1⟩ := R4.out k hlt
          simp only [Option.some.injEq, Addr.mk.injEq, and_true] at he1
          obtain ⟨rfl, rfl⟩ := he1
          rw [burst_at] at e1
          have d1 := keep_cell hbr e1
          have hbv := bval_in a len2 wb HK.out k hlt
          obtain ⟨x, hx⟩ : ∃ x, x = bval a len2 wb k := ⟨_, rfl⟩
          rw [← hx] at d1 hbv
          have t1 : decide (x < 0) = false := decide_eq_false (by omega)
          have t2 : decide (63 < x) = false := decide_eq_false (by omega)
          have hno : x ∉ (burst a len2 wb).take k := by rw [hx]; exact one_each HK.out hlt
          obtain ⟨fq, ht, _⟩ := SlR.take (SlR.below intR_fits G4.out hbr) k (by omega)
          have HT := Lib.hid ht
          have HNO := Lib.hid hno
          have HX := Lib.hid hx
          have HBV := Lib.hid hbv
          have hx0 : 0 ≤ x := HBV.out.1
          have hx63 : x ≤ 63 := HBV.out.2
          clear hbm e1 hno hx hbv ht hbr hb1 hb0 e0
          cases wb
          · have t3 : (x != a + (k : Int)) = false := by rw [HX.out]; simp [bval]
            go_wp2_with fail
            go_quiet ((go_at_call 27; exact Calls.quiet_of_same (no_in _ _ fq x HNO.out _ HT.out)))
            go_wp2
            go_roundw
            case rel => exact ⟨k + 1, by omega, by go_num, below_drewN HB.out _⟩
            case measure => simp [intOf]; omega
          · have t3 : (x / (len2 : Int) != a / (len2 : Int)) = false := by rw [HX.out, one_block HK.out hlt]; simp
            have t4 : (Int.tdiv x (len2 : Int) != Int.tdiv a (len2 : Int)) = false := by rw [Int.tdiv_eq_ediv_of_nonneg (by omega), Int.tdiv_eq_ediv_of_nonneg hq0]; exact t3
            go_wp2_with fail
            go_quiet ((go_at_call 27; exact Calls.quiet_of_same (no_in _ _ fq x HNO.out _ HT.out)))
            go_wp2
            go_roundw
            case rel => exact ⟨k + 1, by omega, by go_num, below_drewN HB.out _⟩
            case measure => simp [intOf]; omega
        · go_wp2
          go_ret
          exact ⟨rfl, B4.out.trans (hbr.mono B4.out.size)⟩

set_option maxRecDepth 100000 in
theorem lifted (os : Os) (started : os.Started) (H : Type) (enc : TypeId × Value → H) :
    ReturnsInHanded {} Try.checked os 4 .any (Rows.fnAdrBurstSpec.pre6 enc Try.prog Try.f4 Rows.fnAdrBurstRow.domain false) (Rows.fnAdrBurstSpec.post enc Try.prog Try.f4 false true false false) := by
  refine returnsInHanded_of_change (C := Try.checked) own started (by kernel_rfl) Try.func4
    (ChangeSpec.witness6 (enc := enc) (C := Try.checked) false ⟨#[], #[.slice none 0 0], []⟩ 8 (by kernel_rfl) (by kernel_rfl) (by kernel_rfl) (by kernel_rfl)) ?_
  intro W base args ds gs before hval0 hW hcnd _
  have hval : ∀ (j : Nat) t v, Try.f4.params[j]? = some t → args[j]? = some v → Value.okWide Try.prog W .any base t v := hval0
  have hW' := hW
  obtain ⟨p, q, hA0, hV, rfl, hfz, hnd⟩ := hW
  have hA : DataW.TrodAll enc Try.prog W 0 (fun _ => true) true Try.f4.params.toList args.toList ds p := hA0
  rw [Try.params4] at hA hval
  obtain ⟨v0, vs0, d0, ds0, p0, q0, hargs, rfl, rfl, h0, r0⟩ := trodAll_cons hA
  obtain ⟨rfl, rfl, rfl⟩ := trodAll_nil r0
  obtain rfl : args = #[v0] := by cases args; simp_all
  obtain ⟨rfl, rfl⟩ := trodVars_none hV
  clear hA0 hval0
  simp only [List.append_nil] at hW'
  have hlt0 : ∀ x ∈ p0, x.block < W.heap.size := fun x hx => by simpa using hW'.lt x (by simp [hx])
  have hk0 := h0
  obtain ⟨ad0, len0, cap0, rfl⟩ := okWide_slice Try.underlying29 (hval 0 29 v0 rfl rfl)
  obtain ⟨fuel0, hf0⟩ := h0
  obtain ⟨x0, fp0, y0, e0, g0⟩ := (opens_slice Try.underlying29 (by kernel_rfl) (by decide) (opens_byte Try.underlying5) byteR_fits) hf0
  obtain rfl : .slice ad0 len0 cap0 = y0 := by simpa [Value.cells] using e0
  refine (walk (.slice ad0 len0 cap0) x0 fp0 W g0).mono fun e W' ⟨he, hb⟩ => ?_
  subst he
  exact ⟨_, rfl, _, _, _, [], _, [], hW', (trodAll_cons_mk (shut_bool Try.underlying4 _) trodAll_mk0), (trodAll_cons_mk (Below.trod laidOut (by kernel_rfl) (of_decide_eq_true (by kernel_rfl)) hk0 hb hlt0) trodAll_mk0), rfl, hb.frame _, fun h => by cases h⟩

theorem over : Rows.fnAdrBurstRow.holds Try.pinned (OpenSpec.ofChange Rows.fnAdrBurstSpec) :=
  OpenClaim.holds_of_wide 4 Try.f4 rfl rfl rfl rfl rfl rfl rfl ⟨rfl, rfl, rfl, rfl, rfl⟩ rfl rfl rfl rfl rfl (by kernel_rfl) Try.func4 (by kernel_rfl)
    (of_decide_eq_true (by kernel_rfl)) (by unfold Func.isWrapper; first | (rw [if_pos (by decide +kernel)]; kernel_rfl) | (rw [if_neg (by decide +kernel)]; exact ⟨rfl, rfl⟩))
    (fun os started H enc _ => lifted os started H enc)

theorem proved : Rows.FnAdrBurstSaid :=
  over
#print axioms proved
end Go.Proofs.Ytlamjbcacminmaa.fnAdrBurst
