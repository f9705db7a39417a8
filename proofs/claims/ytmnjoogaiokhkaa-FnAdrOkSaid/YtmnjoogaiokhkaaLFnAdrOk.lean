/-
  Proved: the Go function laws.FnAdrOk returns true for every code, and the code reads afterwards as before: of an address and words that are ok each address of the burst is, and they are so round about.
  Conditions: none.
-/
import Derived.Test.YtmnjoogaiokhkaaLift
import Derived.Test.YtmnjoogaiokhkaaDAdrOk
import Derived.Test.YtmnjoogaiokhkaaBurst
import Derived.Test.YtmnjoogaiokhkaaCr
namespace Go.Proofs.Ytmnjoogaiokhkaa.fnAdrOk
set_option linter.unusedVariables false
open Go.ChangeShapes Go.WideShapes Go.ChangeAt Go.RowKit

theorem walk (v : Value) (l : List Int) (fp : List Nat) (w : World) (g : ByteS w l v fp) :
    Calls Try.prog 7 #[v] w fun e w' => e = .returned (.bool true) ∧ Below w.heap.size w w' := by
  obtain ⟨a0, n, c0, rfl, hn, hcap, hmax, hcm, _⟩ := g.opened
  have G := Lib.hid g
  clear g
  by_cases hb : 1048576 < n
  · go_enter Try.func7, Try.ntmps7
    go_wp2
    go_ret
    exact ⟨rfl, Below.refl _ _⟩
  · go_enter Try.func7, Try.ntmps7
    go_wp2_with fail
    refine (drawAdrOk_any _ l fp w G.out).mono ?_
    rintro e w1 ⟨a, m, wr, rfl, b1⟩
    have B1 := Lib.hid b1
    clear b1
    cases hok : adrOk a m wr
    · have HK := Lib.hid hok
      clear hok
      go_wp2_with fail
      refine (iAdrOk_any _ _ _ _).mono ?_
      rw [HK.out]
      rintro e w2 ⟨rfl, rfl⟩
      go_wp2_with fail
      refine (sAdrOk_any _ _ _ _).mono ?_
      rw [HK.out]
      rintro e w2 ⟨rfl, rfl⟩
      go_wp2_with fail
      refine (crOk_any _).mono ?_
      rintro e w2 ⟨rfl, rfl⟩
      go_wp2
      go_ret
      exact ⟨rfl, B1.out⟩
    · obtain ⟨_, _, hm, _⟩ := adrOk_true.1 hok
      obtain ⟨q, rfl⟩ := Int.eq_ofNat_of_zero_le (show 0 ≤ m by omega)
      have hwrap : adrOk a q true = true := by
        have := adrOk_true.1 hok
        exact adrOk_true.2 ⟨this.1, this.2.1, this.2.2.1, .inl rfl⟩
      have HK := Lib.hid hok
      have HW := Lib.hid hwrap
      clear hok hwrap
      go_wp2_with fail
      refine (iAdrOk_any _ _ _ _).mono ?_
      rw [HK.out]
      rintro e w2 ⟨rfl, rfl⟩
      go_wp2_with fail
      refine (sAdrOk_any _ _ _ _).mono ?_
      rw [HK.out]
      rintro e w2 ⟨rfl, rfl⟩
      go_wp2_with fail
      refine (iAdrBurst_any _ _ _ _).mono ?_
      rw [show adrBurst a q wr = burst a q wr by unfold adrBurst; rw [if_pos HK.out]; rfl]
      rintro e w2 ⟨v2, fp2, rfl, g2, n2, b2⟩
      obtain ⟨a2, len2, c2, rfl, hl2, hcap2, hmax2, hcm2, r2⟩ := g2.opened
      have hq : len2 = q := by rw [← hl2.out, burst_len]
      obtain rfl := hq
      have B2 := Lib.hid (B1.out.trans (b2.mono B1.out.size))
      clear b2 n2 B1 g2 G
      go_wp2_with fail
      go_loop [8] (fun i => ∃ k : Nat, k ≤ len2 ∧ i = .int .i64 k) (fun i => len2 - (intOf i).toNat)
      case atStart => exact ⟨0, Nat.zero_le _, rfl⟩
      case round =>
        obtain ⟨k, hk, rfl⟩ := hrel
        by_cases hlt : k < len2
        · obtain ⟨i1, b1, o1, rfl, hb1, hbm, e1⟩ := r2 k hlt
          have hv := bval_in a len2 wr HK.out k hlt
          rw [burst_at] at e1
          clear r2
          generalize bval a len2 wr k = x at *
          have ho : adrOk x 1 false = true := adrOk_true.2 ⟨hv.1, hv.2, .inl rfl, .inr (by omega)⟩
          have HO := Lib.hid ho
          clear ho
          go_wp2_with fail
          refine (iAdrOk_any _ _ _ _).mono ?_
          rw [HO.out]
          rintro e w3 ⟨rfl, rfl⟩
          go_wp2
          go_round
          case rel => exact ⟨k + 1, by omega, by go_num⟩
          case measure => simp [intOf]; omega
        · obtain rfl : k = len2 := by omega
          clear r2
          go_wp2_with fail
          refine (iAdrOk_any _ _ _ _).mono ?_
          rw [HW.out]
          rintro e w3 ⟨rfl, rfl⟩
          go_wp2
          go_ret
          exact ⟨rfl, B2.out⟩

set_option maxRecDepth 100000 in
theorem lifted (os : Os) (started : os.Started) (H : Type) (enc : TypeId × Value → H) :
    ReturnsInHanded {} Try.checked os 7 .any (Rows.fnAdrOkSpec.pre6 enc Try.prog Try.f7 Rows.fnAdrOkRow.domain false) (Rows.fnAdrOkSpec.post enc Try.prog Try.f7 false true false false) := by
  refine returnsInHanded_of_change (C := Try.checked) own started (by kernel_rfl) Try.func7
    (ChangeSpec.witness6 (enc := enc) (C := Try.checked) false ⟨#[], #[.slice none 0 0], []⟩ 8 (by kernel_rfl) (by kernel_rfl) (by kernel_rfl) (by kernel_rfl)) ?_
  intro W base args ds gs before hval0 hW hcnd _
  have hval : ∀ (j : Nat) t v, Try.f7.params[j]? = some t → args[j]? = some v → Value.okWide Try.prog W .any base t v := hval0
  have hW' := hW
  obtain ⟨p, q, hA0, hV, rfl, hfz, hnd⟩ := hW
  have hA : DataW.TrodAll enc Try.prog W 0 (fun _ => true) true Try.f7.params.toList args.toList ds p := hA0
  rw [Try.params7] at hA hval
  obtain ⟨v0, vs0, d0, ds0, p0, q0, hargs, rfl, rfl, h0, r0⟩ := trodAll_cons hA
  obtain ⟨rfl, rfl, rfl⟩ := trodAll_nil r0
  obtain rfl : args = #[v0] := by cases args; simp_all
  obtain ⟨rfl, rfl⟩ := trodVars_none hV
  clear hA0 hval0
  simp only [List.append_nil] at hW'
  have hlt0 : ∀ x ∈ p0, x.block < W.heap.size := fun x hx => by simpa using hW'.lt x (by simp [hx])
  have hk0 := h0
  obtain ⟨ad0, len0, cap0, rfl⟩ := okWide_slice Try.underlying32 (hval 0 32 v0 rfl rfl)
  obtain ⟨fuel0, hf0⟩ := h0
  obtain ⟨x0, fp0, y0, e0, g0⟩ := (opens_slice Try.underlying32 (by kernel_rfl) (by decide) (opens_byte Try.underlying5) byteR_fits) hf0
  obtain rfl : .slice ad0 len0 cap0 = y0 := by simpa [Value.cells] using e0
  refine (walk (.slice ad0 len0 cap0) x0 fp0 W g0).mono fun e W' ⟨he, hb⟩ => ?_
  subst he
  exact ⟨_, rfl, _, _, _, [], _, [], hW', (trodAll_cons_mk (shut_bool Try.underlying4 _) trodAll_mk0), (trodAll_cons_mk (Below.trod laidOut (by kernel_rfl) (of_decide_eq_true (by kernel_rfl)) hk0 hb hlt0) trodAll_mk0), rfl, hb.frame _, fun h => by cases h⟩

theorem over : Rows.fnAdrOkRow.holds Try.pinned (OpenSpec.ofChange Rows.fnAdrOkSpec) :=
  OpenClaim.holds_of_wide 7 Try.f7 rfl rfl rfl rfl rfl rfl rfl ⟨rfl, rfl, rfl, rfl, rfl⟩ rfl rfl rfl rfl rfl (by kernel_rfl) Try.func7 (by kernel_rfl)
    (of_decide_eq_true (by kernel_rfl)) (by unfold Func.isWrapper; first | (rw [if_pos (by decide +kernel)]; kernel_rfl) | (rw [if_neg (by decide +kernel)]; exact ⟨rfl, rfl⟩))
    (fun os started H enc _ => lifted os started H enc)

theorem proved : Rows.FnAdrOkSaid :=
  over
#print axioms proved
end Go.Proofs.Ytmnjoogaiokhkaa.fnAdrOk
