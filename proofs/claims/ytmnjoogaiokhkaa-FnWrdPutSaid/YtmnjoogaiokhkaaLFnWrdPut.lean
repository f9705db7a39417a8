/-
  Proved: the Go function laws.FnWrdPut returns true for every code, and the code reads afterwards as before: just the lanes that are told turn.
  Conditions: none.
-/
import Derived.Test.YtmnjoogaiokhkaaLift
import Derived.Test.YtmnjoogaiokhkaaDWrdPut
import Derived.Test.YtmnjoogaiokhkaaWrd
import Derived.Test.YtmnjoogaiokhkaaCr
namespace Go.Proofs.Ytmnjoogaiokhkaa.fnWrdPut
set_option linter.unusedVariables false
open Go.ChangeShapes Go.WideShapes Go.ChangeAt Go.RowKit

theorem cases6 (a b n : Int) (h : ¬ ((0 ≤ a ∧ a ≤ 65535) ∧ (0 ≤ b ∧ b ≤ 65535) ∧ (0 ≤ n ∧ n ≤ 3))) :
    a < 0 ∨ (0 ≤ a ∧ 65535 < a) ∨ (0 ≤ a ∧ a ≤ 65535 ∧ b < 0) ∨ (0 ≤ a ∧ a ≤ 65535 ∧ 0 ≤ b ∧ 65535 < b) ∨ (0 ≤ a ∧ a ≤ 65535 ∧ 0 ≤ b ∧ b ≤ 65535 ∧ n < 0) ∨ (0 ≤ a ∧ a ≤ 65535 ∧ 0 ≤ b ∧ b ≤ 65535 ∧ 0 ≤ n ∧ 3 < n) := by omega

set_option maxHeartbeats 1600000 in
theorem walk (v : Value) (l : List Int) (fp : List Nat) (w : World) (g : ByteS w l v fp) :
    Calls Try.prog 8 #[v] w fun e w' => e = .returned (.bool true) ∧ Below w.heap.size w w' := by
  obtain ⟨a0, n0, c0, rfl, hn, hcap, hmax, hcm, _⟩ := g.opened
  have G := Lib.hid g
  clear g
  by_cases hb : 1048576 < n0
  · go_enter Try.func8, Try.ntmps8
    go_wp2
    go_ret
    exact ⟨rfl, Below.refl _ _⟩
  · go_enter Try.func8, Try.ntmps8
    go_wp2_with fail
    refine (drawWrdPut_any _ l fp w G.out).mono ?_
    rintro e w1 ⟨a, b, n, rfl, b1⟩
    have B1 := Lib.hid b1
    clear b1
    by_cases hok : (0 ≤ a ∧ a ≤ 65535) ∧ (0 ≤ b ∧ b ≤ 65535) ∧ (0 ≤ n ∧ n ≤ 3)
    · obtain ⟨ha, hb, hn⟩ := hok
      have hn' : n = 0 ∨ n = 1 ∨ n = 2 ∨ n = 3 := by omega
      obtain ⟨f1, f2, f3, f4⟩ := putW_facts a b n ha hb hn'
      have hw := putW_word a b n ha hb
      have W1 := Lib.hid (wrdPut_ok a b n ha hb hn)
      have W2 := Lib.hid ((wrdPut_ok (putW a b n) b n hw hb hn).trans f3)
      have W3 := Lib.hid ((wrdPut_ok (putW a b n) a n hw ha hn).trans f4)
      have W4 := Lib.hid (wrdPut_ok a a n ha ha hn)
      clear f3 f4
      generalize putW a b n = x at *
      generalize putW a a n = y at *
      obtain ⟨ha0, ha1⟩ := ha
      obtain ⟨hb0, hb1⟩ := hb
      obtain ⟨hx0, hx1⟩ := hw
      rcases hn' with rfl | rfl | rfl | rfl
      all_goals
        simp at f1 f2
        have F1 : ((x % 256 : Int) == _) = true := beq_iff_eq.2 f1
        have F2 : ((x / 256 : Int) == _) = true := beq_iff_eq.2 f2
        have H1 := Lib.hid f1
        have H2 := Lib.hid f2
        clear f1 f2
        go_wp2_with fail
        refine (iWrdPut_any _ _ _ _).mono ?_
        rw [W1.out]
        rintro e w2 ⟨rfl, rfl⟩
        go_wp2_with fail
        refine (sWrdPut_any _ _ _ _).mono ?_
        rw [W1.out]
        rintro e w2 ⟨rfl, rfl⟩
        go_wp2_with fail
        refine (iWrdPut_any _ _ _ _).mono ?_
        rw [W2.out]
        rintro e w2 ⟨rfl, rfl⟩
        go_wp2_with fail
        refine (iWrdPut_any _ _ _ _).mono ?_
        rw [W3.out]
        rintro e w2 ⟨rfl, rfl⟩
        go_wp2_with fail
        refine (iWrdPut_any _ _ _ _).mono ?_
        rw [W4.out]
        rintro e w2 ⟨rfl, rfl⟩
        go_wp2
        go_ret
        exact ⟨rfl, B1.out⟩
    · have W1 := Lib.hid (wrdPut_no a b n hok)
      have hc := cases6 a b n hok
      clear hok
      rcases hc with h | h | h | h | h | h
      all_goals
        go_wp2_with fail
        refine (iWrdPut_any _ _ _ _).mono ?_
        rw [W1.out]
        rintro e w2 ⟨rfl, rfl⟩
        go_wp2_with fail
        refine (sWrdPut_any _ _ _ _).mono ?_
        rw [W1.out]
        rintro e w2 ⟨rfl, rfl⟩
        go_wp2_with fail
        refine (crOk_any _).mono ?_
        rintro e w2 ⟨rfl, rfl⟩
        go_wp2
        go_ret
        exact ⟨rfl, B1.out⟩

set_option maxRecDepth 100000 in
theorem lifted (os : Os) (started : os.Started) (H : Type) (enc : TypeId × Value → H) :
    ReturnsInHanded {} Try.checked os 8 .any (Rows.fnWrdPutSpec.pre6 enc Try.prog Try.f8 Rows.fnWrdPutRow.domain false) (Rows.fnWrdPutSpec.post enc Try.prog Try.f8 false true false false) := by
  refine returnsInHanded_of_change (C := Try.checked) own started (by kernel_rfl) Try.func8
    (ChangeSpec.witness6 (enc := enc) (C := Try.checked) false ⟨#[], #[.slice none 0 0], []⟩ 8 (by kernel_rfl) (by kernel_rfl) (by kernel_rfl) (by kernel_rfl)) ?_
  intro W base args ds gs before hval0 hW hcnd _
  have hval : ∀ (j : Nat) t v, Try.f8.params[j]? = some t → args[j]? = some v → Value.okWide Try.prog W .any base t v := hval0
  have hW' := hW
  obtain ⟨p, q, hA0, hV, rfl, hfz, hnd⟩ := hW
  have hA : DataW.TrodAll enc Try.prog W 0 (fun _ => true) true Try.f8.params.toList args.toList ds p := hA0
  rw [Try.params8] at hA hval
  obtain ⟨v0, vs0, d0, ds0, p0, q0, hargs, rfl, rfl, h0, r0⟩ := trodAll_cons hA
  obtain ⟨rfl, rfl, rfl⟩ := trodAll_nil r0
  obtain rfl : args = #[v0] := by cases args; simp_all
  obtain ⟨rfl, rfl⟩ := trodVars_none hV
  clear hA0 hval0
  simp only [List.append_nil] at hW'
  have hlt0 : ∀ x ∈ p0, x.block < W.heap.size := fun x hx => by simpa using hW'.lt x (by simp [hx])
  have hk0 := h0
  obtain ⟨ad0, len0, cap0, rfl⟩ := okWide_slice Try.underlying32 (hval 0 32 v0 rfl rfl)
  obtain ⟨fuel0, hf0⟩ := h0
  obtain ⟨x0, fp0, y0, e0, g0⟩ := (opens_slice Try.underlying32 (by kernel_rfl) (by decide) (opens_byte Try.underlying5) byteR_fits) hf0
  obtain rfl : .slice ad0 len0 cap0 = y0 := by simpa [Value.cells] using e0
  refine (walk (.slice ad0 len0 cap0) x0 fp0 W g0).mono fun e W' ⟨he, hb⟩ => ?_
  subst he
  exact ⟨_, rfl, _, _, _, [], _, [], hW', (trodAll_cons_mk (shut_bool Try.underlying4 _) trodAll_mk0), (trodAll_cons_mk (Below.trod laidOut (by kernel_rfl) (of_decide_eq_true (by kernel_rfl)) hk0 hb hlt0) trodAll_mk0), rfl, hb.frame _, fun h => by cases h⟩

theorem over : Rows.fnWrdPutRow.holds Try.pinned (OpenSpec.ofChange Rows.fnWrdPutSpec) :=
  OpenClaim.holds_of_wide 8 Try.f8 rfl rfl rfl rfl rfl rfl rfl ⟨rfl, rfl, rfl, rfl, rfl⟩ rfl rfl rfl rfl rfl (by kernel_rfl) Try.func8 (by kernel_rfl)
    (of_decide_eq_true (by kernel_rfl)) (by unfold Func.isWrapper; first | (rw [if_pos (by decide +kernel)]; kernel_rfl) | (rw [if_neg (by decide +kernel)]; exact ⟨rfl, rfl⟩))
    (fun os started H enc _ => lifted os started H enc)

theorem proved : Rows.FnWrdPutSaid :=
  over
#print axioms proved
end Go.Proofs.Ytmnjoogaiokhkaa.fnWrdPut
