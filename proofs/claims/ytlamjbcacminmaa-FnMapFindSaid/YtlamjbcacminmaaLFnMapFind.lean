/-
  Proved: the Go function laws.FnMapFind returns true for every code, and the code reads afterwards as before: mapFind of an address in a range is that of the first such range; of one in none it is SlvNone.
  Conditions: none.
-/
import Derived.Test.YtlamjbcacminmaaLift
import Derived.Test.YtlamjbcacminmaaDMapOk
import Derived.Test.YtlamjbcacminmaaMapOk
import Derived.Test.YtlamjbcacminmaaCr
namespace Go.Proofs.Ytlamjbcacminmaa.fnMapFind
set_option linter.unusedVariables false
set_option linter.unusedSimpArgs false
open Go.ChangeShapes Go.WideShapes Go.ChangeAt Go.RowKit

theorem find_at {l : List MR} {a : Int} {k : Nat} (h : k < l.length) (hp : isIn a l[k] = true) (hq : ∀ j (hj : j < l.length), j < k → isIn a l[j] = false) : mapFind l a = l[k].sl :=
  mapFind_yes (idxOf_hit h hp hq) h
theorem find_none {l : List MR} {a : Int} (hq : ∀ j (hj : j < l.length), isIn a l[j] = false) : mapFind l a = 3 :=
  mapFind_no (by rw [idxOf_none hq]; omega)

set_option maxRecDepth 100000 in
set_option maxHeartbeats 6400000 in
theorem walk (v : Value) (l0 : List Int) (fp0 : List Nat) (w : World) (g : ByteS w l0 v fp0) :
    Calls Try.prog 11 #[v] w fun e w' => e = .returned (.bool true) ∧ Below w.heap.size w w' := by
  obtain ⟨a0, n0, c0, rfl, hn0, hcap0, hmax0, hcm0, _⟩ := g.opened
  have G := Lib.hid g
  clear g
  by_cases hb : 1048576 < n0
  · go_enter Try.func11, Try.ntmps11
    go_wp2
    go_ret
    exact ⟨rfl, Below.refl _ _⟩
  · go_enter Try.func11, Try.ntmps11
    go_wp2_with fail
    refine (drawMapFind_any _ l0 fp0 w G.out).mono ?_
    rintro e w1 ⟨v1, l, fp, ad, rfl, s1, hl7, b1⟩
    obtain ⟨a, n, c, rfl, hn, hcap, hmax, hcm, r⟩ := s1.opened
    have S1 := Lib.hid s1
    have B1 := Lib.hid b1
    clear s1 b1 hl7
    go_wp2_with fail
    refine (iMapFind_any _ l fp ad _ S1.out).mono ?_
    rintro e w2 ⟨rfl, b2⟩
    have S2 := Lib.hid (SlR.below mrR_fits S1.out b2)
    have B2 := Lib.hid (B1.out.trans (b2.mono B1.out.size))
    clear b2 B1
    go_wp2_with fail
    refine (sMapFind_any _ l fp ad _ S2.out).mono ?_
    rintro e w3 ⟨rfl, b3⟩
    have S3 := Lib.hid (SlR.below mrR_fits S2.out b3)
    have B3 := Lib.hid (B2.out.trans (b3.mono B2.out.size))
    clear b3 B2
    go_wp2_with fail
    refine (sMapOk_any _ l fp _ S3.out).mono ?_
    rintro e w4 ⟨rfl, b4⟩
    have S4 := Lib.hid (SlR.below mrR_fits S3.out b4)
    have B4 := Lib.hid (B3.out.trans (b4.mono B3.out.size))
    clear b4 B3 S3 S2 S1 r
    cases hok : mapOk l
    · clear hok
      go_wp2_with fail
      refine (crOk_any _).mono ?_
      rintro e w5 ⟨rfl, rfl⟩
      go_wp2
      go_ret
      exact ⟨rfl, B4.out⟩
    · have HK := Lib.hid hok
      clear hok
      obtain ⟨a', n', c', he, hn', _, _, _, r⟩ := S4.out.opened
      simp only [Value.slice.injEq] at he
      obtain ⟨rfl, rfl, rfl⟩ := he
      have R := Lib.hid r
      clear r hn'
      obtain ⟨z, hz⟩ : ∃ z, z = mapFind l ad := ⟨_, rfl⟩
      rw [← hz]
      have HZ := Lib.hid hz
      clear hz
      go_wp2_with fail
      go_loop [6] (fun i => ∃ k : Nat, k ≤ n ∧ i = .int .i64 k ∧ (∀ j (hj : j < l.length), j < k → isIn ad l[j] = false)) (fun i => n - (intOf i).toNat)
      case atStart => exact ⟨0, Nat.zero_le _, rfl, fun j _ h => absurd h (Nat.not_lt_zero j)⟩
      case round =>
        obtain ⟨k, hk, rfl, hp⟩ := hrel
        have HP := Lib.hid hp
        clear hp
        by_cases hlt : k < n
        · obtain ⟨i1, b1, o1, f1, cs, rfl, hb1, _, _, ⟨rfl, rfl⟩, e1⟩ := R.out k hlt
          have d0 := e1 0 (by simp)
          have d1 := e1 1 (by simp)
          have d2 := e1 2 (by simp)
          simp only [Nat.add_zero, List.getElem_cons_zero, List.getElem_cons_succ] at d0 d1 d2
          clear e1
          by_cases h1 : l[k].fr ≤ ad
          · by_cases h2 : ad ≤ l[k].to
            · have HF : Hid (z = l[k].sl) := Lib.hid (by rw [HZ.out]; exact find_at i1 (inB_true.2 ⟨h1, h2⟩) (fun j hj hjk => HP.out j hj hjk))
              rw [← HF.out] at d2
              go_wp2
              go_ret
              exact ⟨ret_bool (by simp), B4.out⟩
            · have HN : Hid (isIn ad l[k] = false) := Lib.hid (inB_false.2 (by omega))
              go_wp2
              go_round
              case rel => exact ⟨k + 1, by omega, by go_num, fun j h hj => (by
                by_cases e : j = k
                · subst e; exact HN.out
                · exact HP.out j h (by omega))⟩
              case measure => simp [intOf]; omega
          · have HN : Hid (isIn ad l[k] = false) := Lib.hid (inB_false.2 (by omega))
            go_wp2
            go_round
            case rel => exact ⟨k + 1, by omega, by go_num, fun j h hj => (by
              by_cases e : j = k
              · subst e; exact HN.out
              · exact HP.out j h (by omega))⟩
            case measure => simp [intOf]; omega
        · have hz3 : z = 3 := by rw [HZ.out]; exact find_none (fun j hj => HP.out j hj (by have := hn.out; omega))
          subst hz3
          clear R
          go_wp2_with fail
          refine (crOk_any _).mono ?_
          rintro e w5 ⟨rfl, rfl⟩
          go_wp2
          go_ret
          exact ⟨rfl, B4.out⟩

set_option maxRecDepth 100000 in
theorem lifted (os : Os) (started : os.Started) (H : Type) (enc : TypeId × Value → H) :
    ReturnsInHanded {} Try.checked os 11 .any (Rows.fnMapFindSpec.pre6 enc Try.prog Try.f11 Rows.fnMapFindRow.domain false) (Rows.fnMapFindSpec.post enc Try.prog Try.f11 false true false false) := by
  refine returnsInHanded_of_change (C := Try.checked) own started (by kernel_rfl) Try.func11
    (ChangeSpec.witness6 (enc := enc) (C := Try.checked) false ⟨#[], #[.slice none 0 0], []⟩ 8 (by kernel_rfl) (by kernel_rfl) (by kernel_rfl) (by kernel_rfl)) ?_
  intro W base args ds gs before hval0 hW hcnd _
  have hval : ∀ (j : Nat) t v, Try.f11.params[j]? = some t → args[j]? = some v → Value.okWide Try.prog W .any base t v := hval0
  have hW' := hW
  obtain ⟨p, q, hA0, hV, rfl, hfz, hnd⟩ := hW
  have hA : DataW.TrodAll enc Try.prog W 0 (fun _ => true) true Try.f11.params.toList args.toList ds p := hA0
  rw [Try.params11] at hA hval
  obtain ⟨v0, vs0, d0, ds0, p0, q0, hargs, rfl, rfl, h0, r0⟩ := trodAll_cons hA
  obtain ⟨rfl, rfl, rfl⟩ := trodAll_nil r0
  obtain rfl : args = #[v0] := by cases args; simp_all
  obtain ⟨rfl, rfl⟩ := trodVars_none hV
  clear hA0 hval0
  simp only [List.append_nil] at hW'
  have hlt0 : ∀ x ∈ p0, x.block < W.heap.size := fun x hx => by simpa using hW'.lt x (by simp [hx])
  have hk0 := h0
  obtain ⟨ad0, len0, cap0, rfl⟩ := okWide_slice Try.underlying29 (hval 0 29 v0 rfl rfl)
  obtain ⟨fuel0, hf0⟩ := h0
  obtain ⟨x0, fp0, y0, e0, g0⟩ := (opens_slice Try.underlying29 (by kernel_rfl) (by decide) (opens_byte Try.underlying5) byteR_fits) hf0
  obtain rfl : .slice ad0 len0 cap0 = y0 := by simpa [Value.cells] using e0
  refine (walk (.slice ad0 len0 cap0) x0 fp0 W g0).mono fun e W' ⟨he, hb⟩ => ?_
  subst he
  exact ⟨_, rfl, _, _, _, [], _, [], hW', (trodAll_cons_mk (shut_bool Try.underlying4 _) trodAll_mk0), (trodAll_cons_mk (Below.trod laidOut (by kernel_rfl) (of_decide_eq_true (by kernel_rfl)) hk0 hb hlt0) trodAll_mk0), rfl, hb.frame _, fun h => by cases h⟩

theorem over : Rows.fnMapFindRow.holds Try.pinned (OpenSpec.ofChange Rows.fnMapFindSpec) :=
  OpenClaim.holds_of_wide 11 Try.f11 rfl rfl rfl rfl rfl rfl rfl ⟨rfl, rfl, rfl, rfl, rfl⟩ rfl rfl rfl rfl rfl (by kernel_rfl) Try.func11 (by kernel_rfl)
    (of_decide_eq_true (by kernel_rfl)) (by unfold Func.isWrapper; first | (rw [if_pos (by decide +kernel)]; kernel_rfl) | (rw [if_neg (by decide +kernel)]; exact ⟨rfl, rfl⟩))
    (fun os started H enc _ => lifted os started H enc)

theorem proved : Rows.FnMapFindSaid :=
  over
#print axioms proved
end Go.Proofs.Ytlamjbcacminmaa.fnMapFind
