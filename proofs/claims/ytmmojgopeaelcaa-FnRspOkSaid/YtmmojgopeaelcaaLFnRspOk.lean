/-
  Proved: the Go function laws.FnRspOk returns true for every code, and the code reads afterwards as before: what comes of something has at most four words; with a word more than four, or one that is none, it is not ok.
  Conditions: none.
-/
import Derived.Test.YtmmojgopeaelcaaLift
import Derived.Test.YtmmojgopeaelcaaDRspOk
import Derived.Test.YtmmojgopeaelcaaCr
namespace Go.Proofs.Ytmmojgopeaelcaa.fnRspOk
set_option linter.unusedVariables false
set_option linter.unusedSimpArgs false
open Go.ChangeShapes Go.WideShapes Go.ChangeAt Go.RowKit

theorem five (a b : Int) : rspOk ⟨a, b, [1, 2, 3, 4, 5]⟩ = false := by simp [rspOk]
theorem nope (a b : Int) : rspOk ⟨a, b, [65536]⟩ = false := by simp [rspOk, allIn, inB]
theorem four {x : Rsp} (h : rspOk x = true) : x.data.length ≤ 4 := by
  unfold rspOk at h
  simp only [Bool.and_eq_true, decide_eq_true_eq] at h
  exact h.2.2.1

theorem lit_reads (w : World) (A : Array Value) (l : List Int) (hA : A.toList = l.flatMap IntC) (n : Nat) (hn : l.length = n) (hm : n ≤ maxLen) : ∃ fp, SlR 1 intR (w.alloc (.cells A 3)) l (.slice (some ⟨w.heap.size, 0, none⟩) n n) fp := by
  obtain ⟨fp, h, _⟩ := intRow_reads (OwnR.lit (K := 1) (c := IntC) (e := 3) (base := w.heap.size) w A n l IntC_len hA hn (Nat.le_refl _) hm)
  exact ⟨fp, h⟩

set_option maxRecDepth 100000 in
set_option maxHeartbeats 3200000 in
theorem walk (v : Value) (l0 : List Int) (fp0 : List Nat) (w : World) (g : ByteS w l0 v fp0) :
    Calls Try.prog 8 #[v] w fun e w' => e = .returned (.bool true) ∧ Below w.heap.size w w' := by
  obtain ⟨a0, n0, c0, rfl, hn0, hcap0, hmax0, hcm0, _⟩ := g.opened
  have G := Lib.hid g
  clear g
  by_cases hb : 1048576 < n0
  · go_enter Try.func8, Try.ntmps8
    go_wp2
    go_ret
    exact ⟨rfl, Below.refl _ _⟩
  · go_enter Try.func8, Try.ntmps8
    go_wp2_with fail
    refine (drawRspOk_any _ l0 fp0 w G.out).mono ?_
    rintro e w1 ⟨x, v1, fp, rfl, s1, hl5, b1⟩
    obtain ⟨a, n, c, rfl, hn, hcap, hmax, hcm, _⟩ := s1.opened
    have ba := below_alloc w1 (.cells #[.int .i64 x.id, .int .i64 x.code, .slice a n c] 75)
    have S1 := Lib.hid (SlR.below intR_fits s1 ba)
    have B1 := Lib.hid (b1.trans (ba.mono b1.size))
    clear s1 b1 hl5 ba
    go_wp2_with fail
    refine (iRspOk_any x _ fp _ S1.out).mono ?_
    rintro e w2 ⟨rfl, b2⟩
    have X0 := keep_cell b2 (alloc1_new w1 _ _ 0 rfl)
    have X1 := keep_cell b2 (alloc1_new w1 _ _ 1 rfl)
    have X2 := keep_cell b2 (alloc1_new w1 _ _ 2 rfl)
    have S2 := Lib.hid (SlR.below intR_fits S1.out b2)
    have B2 := Lib.hid (B1.out.trans (b2.mono B1.out.size))
    clear b2 B1 S1
    go_wp2_with fail
    refine (sRspOk_any x _ fp _ S2.out).mono ?_
    rintro e w3 ⟨rfl, b3⟩
    replace X0 := keep_cell b3 X0
    replace X1 := keep_cell b3 X1
    replace X2 := keep_cell b3 X2
    have B3 := Lib.hid (B2.out.trans (b3.mono B2.out.size))
    clear b3 B2 S2
    cases hok : rspOk x
    · clear hok
      go_wp2_with fail
      refine (crOk_any _).mono ?_
      rintro e w4 ⟨rfl, rfl⟩
      go_wp2
      go_ret
      exact ⟨rfl, B3.out⟩
    · have h4 := four hok
      have hn4 : (n : Int) ≤ 4 := by rw [hn.out] at h4; omega
      have z := block_of_cell X0
      clear hok h4
      go_wp2_with fail
      obtain ⟨Wa, hWa⟩ : ∃ W, W = w3.alloc (.cells #[.int .i64 x.id, .int .i64 x.code, .slice (some ⟨w3.heap.size + 1, 0, none⟩) 5 5] 75) := ⟨_, rfl⟩
      obtain ⟨fa, sa⟩ := lit_reads Wa #[.int .i64 1, .int .i64 2, .int .i64 3, .int .i64 4, .int .i64 5] [1, 2, 3, 4, 5] rfl 5 rfl (by decide)
      obtain ⟨Wb, hWb⟩ : ∃ W, W = (Wa.alloc (.cells #[.int .i64 1, .int .i64 2, .int .i64 3, .int .i64 4, .int .i64 5] 3)).alloc (.cells #[.int .i64 x.id, .int .i64 x.code, .slice (some ⟨w3.heap.size + 1 + 1 + 1, 0, none⟩) 1 1] 75) := ⟨_, rfl⟩
      obtain ⟨fb, sb⟩ := lit_reads Wb #[.int .i64 65536] [65536] rfl 1 rfl (by decide)
      have za : Wa.heap.size = w3.heap.size + 1 := by rw [hWa]; simp
      have zb : Wb.heap.size = w3.heap.size + 1 + 1 + 1 := by rw [hWb]; simp [za]
      have ba : Below w3.heap.size w3 Wa := by rw [hWa]; exact below_alloc _ _
      have bb : Below Wa.heap.size (Wa.alloc (.cells #[.int .i64 1, .int .i64 2, .int .i64 3, .int .i64 4, .int .i64 5] 3)) Wb := by rw [hWb]; exact (below_alloc _ _).mono (by simp)
      have bc := below_alloc Wb (.cells #[.int .i64 65536] 3)
      have SA := Lib.hid (SlR.below intR_fits (SlR.below intR_fits sa (by rw [hWb]; exact below_alloc _ _)) bc)
      have SB := Lib.hid sb
      rw [za] at SA
      rw [zb] at SB
      have BC := Lib.hid (B3.out.trans (((ba.trans ((below_alloc Wa (.cells #[.int .i64 1, .int .i64 2, .int .i64 3, .int .i64 4, .int .i64 5] 3)).mono ba.size)).trans ((bb.mono ba.size).trans (bc.mono (by omega)))).mono B3.out.size))
      rw [← hWa, ← hWb]
      have Y0 := keep_cell bc (keep_cell (W := Wa.alloc (.cells #[.int .i64 1, .int .i64 2, .int .i64 3, .int .i64 4, .int .i64 5] 3)) (by rw [hWb]; exact below_alloc _ _) (keep_cell (below_alloc Wa (.cells #[.int .i64 1, .int .i64 2, .int .i64 3, .int .i64 4, .int .i64 5] 3)) (by rw [hWa]; exact alloc_keep X0 _)))
      have Y1 := keep_cell bc (keep_cell (W := Wa.alloc (.cells #[.int .i64 1, .int .i64 2, .int .i64 3, .int .i64 4, .int .i64 5] 3)) (by rw [hWb]; exact below_alloc _ _) (keep_cell (below_alloc Wa (.cells #[.int .i64 1, .int .i64 2, .int .i64 3, .int .i64 4, .int .i64 5] 3)) (by rw [hWa]; exact alloc_keep X1 _)))
      have Y2 := keep_cell bc (keep_cell (W := Wa.alloc (.cells #[.int .i64 1, .int .i64 2, .int .i64 3, .int .i64 4, .int .i64 5] 3)) (by rw [hWb]; exact below_alloc _ _) (keep_cell (below_alloc Wa (.cells #[.int .i64 1, .int .i64 2, .int .i64 3, .int .i64 4, .int .i64 5] 3)) (by rw [hWa]; exact alloc_keep X2 _)))
      have V0 := keep_cell bc (w1 := Wb.alloc (.cells #[.int .i64 65536] 3)) (by rw [hWb]; exact alloc1_new _ _ _ 0 rfl : Wb.cell? ⟨(Wa.alloc (.cells #[.int .i64 1, .int .i64 2, .int .i64 3, .int .i64 4, .int .i64 5] 3)).heap.size, 0, none⟩ = some (.int .i64 x.id))
      have V1 := keep_cell bc (w1 := Wb.alloc (.cells #[.int .i64 65536] 3)) (by rw [hWb]; exact alloc1_new _ _ _ 1 rfl : Wb.cell? ⟨(Wa.alloc (.cells #[.int .i64 1, .int .i64 2, .int .i64 3, .int .i64 4, .int .i64 5] 3)).heap.size, 1, none⟩ = some (.int .i64 x.code))
      have V2 := keep_cell bc (w1 := Wb.alloc (.cells #[.int .i64 65536] 3)) (by rw [hWb]; exact alloc1_new _ _ _ 2 rfl : Wb.cell? ⟨(Wa.alloc (.cells #[.int .i64 1, .int .i64 2, .int .i64 3, .int .i64 4, .int .i64 5] 3)).heap.size, 2, none⟩ = some (.slice (some ⟨w3.heap.size + 1 + 1 + 1, 0, none⟩) 1 1))
      rw [show (Wa.alloc (.cells #[.int .i64 1, .int .i64 2, .int .i64 3, .int .i64 4, .int .i64 5] 3)).heap.size = w3.heap.size + 1 + 1 by simp [za]] at V0 V1 V2
      clear hWa hWb sa sb za zb ba bb bc X0 X1 X2 z
      refine (iRspOk_any ⟨x.id, x.code, [1, 2, 3, 4, 5]⟩ _ fa _ SA.out).mono ?_
      rw [five]
      rintro e w4 ⟨rfl, b4⟩
      replace Y0 := keep_cell b4 Y0
      replace Y1 := keep_cell b4 Y1
      replace Y2 := keep_cell b4 Y2
      replace V0 := keep_cell b4 V0
      replace V1 := keep_cell b4 V1
      replace V2 := keep_cell b4 V2
      replace SB := Lib.hid (SlR.below intR_fits SB.out b4)
      replace BC := Lib.hid (BC.out.trans (b4.mono BC.out.size))
      clear b4
      go_wp2_with fail
      refine (iRspOk_any ⟨x.id, x.code, [65536]⟩ _ fb _ SB.out).mono ?_
      rw [nope]
      rintro e w5 ⟨rfl, b5⟩
      replace Y0 := keep_cell b5 Y0
      replace Y1 := keep_cell b5 Y1
      replace Y2 := keep_cell b5 Y2
      replace BC := Lib.hid (BC.out.trans (b5.mono BC.out.size))
      clear b5
      go_wp2
      go_ret
      exact ⟨rfl, BC.out⟩

set_option maxRecDepth 100000 in
theorem lifted (os : Os) (started : os.Started) (H : Type) (enc : TypeId × Value → H) :
    ReturnsInHanded {} Try.checked os 8 .any (Rows.fnRspOkSpec.pre6 enc Try.prog Try.f8 Rows.fnRspOkRow.domain false) (Rows.fnRspOkSpec.post enc Try.prog Try.f8 false true false false) := by
  refine returnsInHanded_of_change (C := Try.checked) own started (by kernel_rfl) Try.func8
    (ChangeSpec.witness6 (enc := enc) (C := Try.checked) false ⟨#[], #[.slice none 0 0], []⟩ 8 (by kernel_rfl) (by kernel_rfl) (by kernel_rfl) (by kernel_rfl)) ?_
  intro W base args ds gs before hval0 hW hcnd _
  have hval : ∀ (j : Nat) t v, Try.f8.params[j]? = some t → args[j]? = some v → Value.okWide Try.prog W .any base t v := hval0
  have hW' := hW
  obtain ⟨p, q, hA0, hV, rfl, hfz, hnd⟩ := hW
  have hA : DataW.TrodAll enc Try.prog W 0 (fun _ => true) true Try.f8.params.toList args.toList ds p := hA0
  rw [Try.params8] at hA hval
  obtain ⟨v0, vs0, d0, ds0, p0, q0, hargs, rfl, rfl, h0, r0⟩ := trodAll_cons hA
  obtain ⟨rfl, rfl, rfl⟩ := trodAll_nil r0
  obtain rfl : args = #[v0] := by cases args; simp_all
  obtain ⟨rfl, rfl⟩ := trodVars_none hV
  clear hA0 hval0
  simp only [List.append_nil] at hW'
  have hlt0 : ∀ x ∈ p0, x.block < W.heap.size := fun x hx => by simpa using hW'.lt x (by simp [hx])
  have hk0 := h0
  obtain ⟨ad0, len0, cap0, rfl⟩ := okWide_slice Try.underlying73 (hval 0 73 v0 rfl rfl)
  obtain ⟨fuel0, hf0⟩ := h0
  obtain ⟨x0, fp0, y0, e0, g0⟩ := (opens_slice Try.underlying73 (by kernel_rfl) (by decide) (opens_byte Try.underlying5) byteR_fits) hf0
  obtain rfl : .slice ad0 len0 cap0 = y0 := by simpa [Value.cells] using e0
  refine (walk (.slice ad0 len0 cap0) x0 fp0 W g0).mono fun e W' ⟨he, hb⟩ => ?_
  subst he
  exact ⟨_, rfl, _, _, _, [], _, [], hW', (trodAll_cons_mk (shut_bool Try.underlying4 _) trodAll_mk0), (trodAll_cons_mk (Below.trod laidOut (by kernel_rfl) (of_decide_eq_true (by kernel_rfl)) hk0 hb hlt0) trodAll_mk0), rfl, hb.frame _, fun h => by cases h⟩

theorem over : Rows.fnRspOkRow.holds Try.pinned (OpenSpec.ofChange Rows.fnRspOkSpec) :=
  OpenClaim.holds_of_wide 8 Try.f8 rfl rfl rfl rfl rfl rfl rfl ⟨rfl, rfl, rfl, rfl, rfl⟩ rfl rfl rfl rfl rfl (by kernel_rfl) Try.func8 (by kernel_rfl)
    (of_decide_eq_true (by kernel_rfl)) (by unfold Func.isWrapper; first | (rw [if_pos (by decide +kernel)]; kernel_rfl) | (rw [if_neg (by decide +kernel)]; exact ⟨rfl, rfl⟩))
    (fun os started H enc _ => lifted os started H enc)

theorem proved : Rows.FnRspOkSaid :=
  over
#print axioms proved
end Go.Proofs.Ytmmojgopeaelcaa.fnRspOk
