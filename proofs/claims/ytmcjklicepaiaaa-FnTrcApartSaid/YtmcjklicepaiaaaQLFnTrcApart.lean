/-
  Proved: the Go function laws.FnTrcApart returns true for all arguments: TrcApart of two things that happen is that of them the other way round, and the reference's; nothing is apart from itself, nor from what the same one asks.
  Conditions: none.
-/
import Derived.Test.YtmcjklicepaiaaaPk38
import Derived.Test.YtmcjklicepaiaaaQDTrcApart
import Derived.Test.YtmcjklicepaiaaaQTrcApart
import Derived.Deep.Cut
namespace Go.Proofs.Ytmcjklicepaiaaa
set_option linter.unusedVariables false
set_option linter.unusedSimpArgs false
open Go.RowKit Go.ChangeShapes Go.WideShapes Go.ChangeAt

theorem hits_sym (l m : List Int) : hits l m = hits m l := by
  rw [Bool.eq_iff_iff]
  unfold hits
  simp only [List.any_eq_true, List.contains_iff_mem]
  exact ⟨fun ⟨x, h1, h2⟩ => ⟨x, h2, h1⟩, fun ⟨x, h1, h2⟩ => ⟨x, h2, h1⟩⟩
theorem metO_sym (a b : Option Req) : metO a b = metO b a := by
  cases a <;> cases b <;> simp [metO, meetB, hits_sym]
theorem apartB_sym (c : Bus) (a b : Ev) : apartB c a b = apartB c b a := by
  unfold apartB
  rw [metO_sym (reqAt c a)]
  have e1 : (a.who = b.who ∨ (a.kind = 3 ∧ b.kind = 3)) ↔ (b.who = a.who ∨ (b.kind = 3 ∧ a.kind = 3)) := by omega
  have e2 : (a.kind ≠ 2 ∨ b.kind ≠ 2) ↔ (b.kind ≠ 2 ∨ a.kind ≠ 2) := by omega
  simp only [e1, e2]
theorem trcApart_sym (c : Bus) (a b : Ev) : trcApart c a b = trcApart c b a := by
  unfold trcApart
  rw [apartB_sym c a b]
  cases evOk c a <;> cases evOk c b <;> simp
theorem trcApart_self (c : Bus) (a : Ev) : trcApart c a a = false := by
  unfold trcApart apartB
  simp
theorem trcApart_who {c : Bus} {a b : Ev} (h : trcApart c a b = true) : a.who ≠ b.who := by
  intro e
  unfold trcApart apartB at h
  simp [e] at h

set_option maxRecDepth 100000 in
set_option maxHeartbeats 6400000 in
theorem walk (v : Value) (l0 : List Int) (fp0 : List Nat) (w : World) (g : ByteS w l0 v fp0) :
    Calls Try.prog 6 #[v] w fun e w' => e = .returned (.bool true) ∧ Below w.heap.size w w' := by
  obtain ⟨a0, n0, c0, rfl, hn0, hcap0, hmax0, hcm0, _⟩ := g.opened
  have G := Lib.hid g
  clear g
  by_cases hb : 1048576 < n0
  · go_enter Try.func6, Try.ntmps6
    go_wp2
    go_ret
    exact ⟨rfl, Below.refl _ _⟩
  · go_enter Try.func6, Try.ntmps6
    go_wp2_with fail
    refine (drawTrcApart_any _ l0 fp0 w G.out).mono ?_
    rintro e w1 ⟨x, va, la, pa, vn, vc, ln, lc, pn, pc, ⟨ka, wa, na⟩, ⟨kb, wb, nb⟩, rfl, br, hm, b1⟩
    obtain ⟨⟨f0, g0⟩, ⟨f1, g1⟩, ⟨f2, g2⟩⟩ := br
    obtain ⟨w2, hw2⟩ : ∃ z, z = ((w1.alloc (.cells #[.slice va vn vc, .slice la ln lc, .slice pa pn pc] 38)).alloc (.cells #[.int .i64 ka, .int .i64 wa, .int .i64 na] 47)).alloc (.cells #[.int .i64 kb, .int .i64 wb, .int .i64 nb] 47) := ⟨_, rfl⟩
    have b2 : Below w1.heap.size w1 w2 := by rw [hw2]; exact below3 w1 _ _ _
    have X0 : w2.cell? ⟨w1.heap.size, 0, none⟩ = some (.slice va vn vc) := by rw [hw2]; exact alloc_keep (alloc_keep (alloc1_new _ _ _ 0 rfl) _) _
    have X1 : w2.cell? ⟨w1.heap.size, 1, none⟩ = some (.slice la ln lc) := by rw [hw2]; exact alloc_keep (alloc_keep (alloc1_new _ _ _ 1 rfl) _) _
    have X2 : w2.cell? ⟨w1.heap.size, 2, none⟩ = some (.slice pa pn pc) := by rw [hw2]; exact alloc_keep (alloc_keep (alloc1_new _ _ _ 2 rfl) _) _
    have A0 : w2.cell? ⟨w1.heap.size + 1, 0, none⟩ = some (.int .i64 ka) := by rw [hw2]; exact alloc_keep (alloc2_new _ _ _ _ _ 0 rfl) _
    have A1 : w2.cell? ⟨w1.heap.size + 1, 1, none⟩ = some (.int .i64 wa) := by rw [hw2]; exact alloc_keep (alloc2_new _ _ _ _ _ 1 rfl) _
    have A2 : w2.cell? ⟨w1.heap.size + 1, 2, none⟩ = some (.int .i64 na) := by rw [hw2]; exact alloc_keep (alloc2_new _ _ _ _ _ 2 rfl) _
    have B0 : w2.cell? ⟨w1.heap.size + 1 + 1, 0, none⟩ = some (.int .i64 kb) := by rw [hw2]; exact alloc3_new _ _ _ _ _ _ 0 rfl
    have B1 : w2.cell? ⟨w1.heap.size + 1 + 1, 1, none⟩ = some (.int .i64 wb) := by rw [hw2]; exact alloc3_new _ _ _ _ _ _ 1 rfl
    have B2 : w2.cell? ⟨w1.heap.size + 1 + 1, 2, none⟩ = some (.int .i64 nb) := by rw [hw2]; exact alloc3_new _ _ _ _ _ _ 2 rfl
    have HB := Lib.hid (b1.trans (b2.mono b1.size))
    have G0 := Lib.hid (SlR.below mrR_fits g0 b2)
    have G1 := Lib.hid (SlR.below intR_fits g1 b2)
    have G2 := Lib.hid (SlR.below (slR_fits reqR_fits) g2 b2)
    go_upto_region 4 with fail
    rw [← hw2]
    obtain ⟨bc, hbc⟩ : ∃ z, z = w1.heap.size := ⟨_, rfl⟩
    rw [← hbc] at X0 X1 X2 A0 A1 A2 B0 B1 B2
    rw [← hbc]
    clear hw2 hbc g0 g1 g2 b1 b2 hm
    have Y0 := Lib.hid X0
    have Y1 := Lib.hid X1
    have Y2 := Lib.hid X2
    have C0 := Lib.hid A0
    have C1 := Lib.hid A1
    have C2 := Lib.hid A2
    have D0 := Lib.hid B0
    have D1 := Lib.hid B1
    have D2 := Lib.hid B2
    go_wp2_with fail
    refine (iTrcApart_any x _ _ _ f0 f1 f2 ⟨ka, wa, na⟩ ⟨kb, wb, nb⟩ _ G0.out G1.out G2.out).mono ?_
    cases q : trcApart x ⟨ka, wa, na⟩ ⟨kb, wb, nb⟩
    all_goals
      have Q := Lib.hid q
      clear q
      rintro e w3 ⟨rfl, b3⟩
      have H0 := Lib.hid (SlR.below mrR_fits G0.out b3)
      have H1 := Lib.hid (SlR.below intR_fits G1.out b3)
      have H2 := Lib.hid (SlR.below (slR_fits reqR_fits) G2.out b3)
      have HB3 := Lib.hid (HB.out.trans (b3.mono HB.out.size))
      replace X0 := keep_cell b3 Y0.out
      replace X1 := keep_cell b3 Y1.out
      replace X2 := keep_cell b3 Y2.out
      replace A0 := keep_cell b3 C0.out
      replace A1 := keep_cell b3 C1.out
      replace A2 := keep_cell b3 C2.out
      replace B0 := keep_cell b3 D0.out
      replace B1 := keep_cell b3 D1.out
      replace B2 := keep_cell b3 D2.out
      clear b3 G0 G1 G2 HB Y0 Y1 Y2 C0 C1 C2 D0 D1 D2
      have Y0 := Lib.hid X0
      have Y1 := Lib.hid X1
      have Y2 := Lib.hid X2
      have C0 := Lib.hid A0
      have C1 := Lib.hid A1
      have C2 := Lib.hid A2
      have D0 := Lib.hid B0
      have D1 := Lib.hid B1
      have D2 := Lib.hid B2
      go_wp2_with fail
      refine (sTrcApart_any x _ _ _ f0 f1 f2 ⟨ka, wa, na⟩ ⟨kb, wb, nb⟩ _ H0.out H1.out H2.out).mono ?_
      rw [Q.out]
      rintro e w4 ⟨rfl, b4⟩
      have J0 := Lib.hid (SlR.below mrR_fits H0.out b4)
      have J1 := Lib.hid (SlR.below intR_fits H1.out b4)
      have J2 := Lib.hid (SlR.below (slR_fits reqR_fits) H2.out b4)
      have HB4 := Lib.hid (HB3.out.trans (b4.mono HB3.out.size))
      replace X0 := keep_cell b4 Y0.out
      replace X1 := keep_cell b4 Y1.out
      replace X2 := keep_cell b4 Y2.out
      replace A0 := keep_cell b4 C0.out
      replace A1 := keep_cell b4 C1.out
      replace A2 := keep_cell b4 C2.out
      replace B0 := keep_cell b4 D0.out
      replace B1 := keep_cell b4 D1.out
      replace B2 := keep_cell b4 D2.out
      clear b4 H0 H1 H2 HB3 Y0 Y1 Y2 C0 C1 C2 D0 D1 D2
      have Y0 := Lib.hid X0
      have Y1 := Lib.hid X1
      have Y2 := Lib.hid X2
      have C0 := Lib.hid A0
      have C1 := Lib.hid A1
      have C2 := Lib.hid A2
      have D0 := Lib.hid B0
      have D1 := Lib.hid B1
      have D2 := Lib.hid B2
      go_wp2_with fail
      refine (iTrcApart_any x _ _ _ f0 f1 f2 ⟨kb, wb, nb⟩ ⟨ka, wa, na⟩ _ J0.out J1.out J2.out).mono ?_
      rw [trcApart_sym x ⟨kb, wb, nb⟩ ⟨ka, wa, na⟩, Q.out]
      rintro e w5 ⟨rfl, b5⟩
      have K0 := Lib.hid (SlR.below mrR_fits J0.out b5)
      have K1 := Lib.hid (SlR.below intR_fits J1.out b5)
      have K2 := Lib.hid (SlR.below (slR_fits reqR_fits) J2.out b5)
      have HB5 := Lib.hid (HB4.out.trans (b5.mono HB4.out.size))
      replace X0 := keep_cell b5 Y0.out
      replace X1 := keep_cell b5 Y1.out
      replace X2 := keep_cell b5 Y2.out
      replace A0 := keep_cell b5 C0.out
      replace A1 := keep_cell b5 C1.out
      replace A2 := keep_cell b5 C2.out
      replace B0 := keep_cell b5 D0.out
      replace B1 := keep_cell b5 D1.out
      replace B2 := keep_cell b5 D2.out
      clear b5 J0 J1 J2 HB4 Y0 Y1 Y2 C0 C1 C2 D0 D1 D2
      have Y0 := Lib.hid X0
      have Y1 := Lib.hid X1
      have Y2 := Lib.hid X2
      have C0 := Lib.hid A0
      have C1 := Lib.hid A1
      have C2 := Lib.hid A2
      have D0 := Lib.hid B0
      have D1 := Lib.hid B1
      have D2 := Lib.hid B2
      go_wp2_with fail
      refine (iTrcApart_any x _ _ _ f0 f1 f2 ⟨ka, wa, na⟩ ⟨ka, wa, na⟩ _ K0.out K1.out K2.out).mono ?_
      rw [trcApart_self]
      rintro e w6 ⟨rfl, b6⟩
      have HB6 := Lib.hid (HB5.out.trans (b6.mono HB5.out.size))
      replace X0 := keep_cell b6 Y0.out
      replace A1 := keep_cell b6 C1.out
      replace B1 := keep_cell b6 D1.out
      clear b6 K0 K1 K2 HB5 Y0 Y1 Y2 C0 C1 C2 D0 D1 D2 X1 X2 A0 A2 B0 B2
    · go_wp2_with fail
      refine (crOk_any _).mono ?_
      rintro e w9 ⟨rfl, rfl⟩
      go_wp2
      go_ret
      exact ⟨rfl, HB6.out⟩
    · have hne : wa ≠ wb := trcApart_who Q.out
      have hne' : (wa != wb) = true := by simpa using hne
      have hne2 : ¬ wa = wb := hne
      clear hne
      go_wp2_with fail
      refine (crOk_any _).mono ?_
      rintro e w9 ⟨rfl, rfl⟩
      go_wp2
      go_ret
      exact ⟨rfl, HB6.out⟩

namespace fnTrcApart
set_option linter.unusedVariables false
set_option linter.unusedSimpArgs false
set_option maxRecDepth 100000 in
theorem lifted (os : Os) (started : os.Started) (H : Type) (enc : TypeId × Value → H) :
    ReturnsInHanded {} Try.checked os 6 .any (Rows.fnTrcApartSpec.pre6 enc Try.prog Try.f6 Rows.fnTrcApartRow.domain false) (Rows.fnTrcApartSpec.post enc Try.prog Try.f6 false true false false) := by
  refine returnsInHanded_of_change (C := Try.checked) own started (by kernel_rfl) Try.func6
    (ChangeSpec.witness6 (enc := enc) (C := Try.checked) false ⟨#[], #[.slice none 0 0], []⟩ 8 (by kernel_rfl) (by kernel_rfl) (by kernel_rfl) (by kernel_rfl)) ?_
  intro W base args ds gs before hval0 hW hcnd _
  have hval : ∀ (j : Nat) t v, Try.f6.params[j]? = some t → args[j]? = some v → Value.okWide Try.prog W .any base t v := hval0
  have hW' := hW
  obtain ⟨p, q, hA0, hV, rfl, hfz, hnd⟩ := hW
  have hA : DataW.TrodAll enc Try.prog W 0 (fun _ => true) true Try.f6.params.toList args.toList ds p := hA0
  rw [Try.params6] at hA hval
  obtain ⟨v0, vs0, d0, ds0, p0, q0, hargs, rfl, rfl, h0, r0⟩ := trodAll_cons hA
  obtain ⟨rfl, rfl, rfl⟩ := trodAll_nil r0
  obtain rfl : args = #[v0] := by cases args; simp_all
  obtain ⟨rfl, rfl⟩ := trodVars_none hV
  clear hA0 hval0
  simp only [List.append_nil] at hW'
  have hlt0 : ∀ x ∈ p0, x.block < W.heap.size := fun x hx => by simpa using hW'.lt x (by simp [hx])
  have hk0 := h0
  obtain ⟨ad0, len0, cap0, rfl⟩ := okWide_slice Try.underlying22 (hval 0 22 v0 rfl rfl)
  obtain ⟨fuel0, hf0⟩ := h0
  obtain ⟨x0, fp0, y0, e0, g0⟩ := (opens_slice Try.underlying22 (by kernel_rfl) (by decide) (opens_byte Try.underlying5) byteR_fits) hf0
  obtain rfl : .slice ad0 len0 cap0 = y0 := by simpa [Value.cells] using e0
  refine (walk (.slice ad0 len0 cap0) x0 fp0 W g0).mono fun e W' ⟨he, hb⟩ => ?_
  subst he
  exact ⟨_, rfl, _, _, _, [], _, [], hW', (trodAll_cons_mk (shut_bool Try.underlying4 _) trodAll_mk0), (trodAll_cons_mk (Below.trod laidOut (by kernel_rfl) (of_decide_eq_true (by kernel_rfl)) hk0 hb hlt0) trodAll_mk0), rfl, hb.frame _, fun h => by cases h⟩

theorem over : Rows.fnTrcApartRow.holds Try.pinned (OpenSpec.ofChange Rows.fnTrcApartSpec) :=
  OpenClaim.holds_of_wide 6 Try.f6 rfl rfl rfl rfl rfl rfl rfl ⟨rfl, rfl, rfl, rfl, rfl⟩ rfl rfl rfl rfl rfl (by kernel_rfl) Try.func6 (by kernel_rfl)
    (of_decide_eq_true (by kernel_rfl)) (by unfold Func.isWrapper; first | (rw [if_pos (by decide +kernel)]; kernel_rfl) | (rw [if_neg (by decide +kernel)]; exact ⟨rfl, rfl⟩))
    (fun os started H enc _ => lifted os started H enc)

theorem proved : Rows.FnTrcApartSaid :=
  over
#print axioms proved
end fnTrcApart
end Go.Proofs.Ytmcjklicepaiaaa
