/-
  Whether two lists of what happens are the same but for the order of what is apart: the reference's TrcSame.
-/
import Derived.Test.YtmmojgopeaelcaaSame2
import Derived.Test.YtmmojgopeaelcaaRegion5
namespace Go.Proofs.Ytmmojgopeaelcaa
set_option linter.unusedVariables false
set_option linter.unusedSimpArgs false
open Go.RowKit Go.ChangeShapes

theorem order_no {c : Bus} {a b : List Ev} {k : Nat} (h : k < a.length) (hk : evAt b a[k] < 0) : orderB c a b = false := by
  unfold orderB
  exact decide_eq_false fun h' => by have := (h' k h).1; omega
theorem order_no2 {c : Bus} {a b : List Ev} {k j : Nat} (h : k < a.length) (h' : j < a.length) (hj : j < k) (hap : apartB c a[j] a[k] = false) (hgt : evAt b a[k] < evAt b a[j]) : orderB c a b = false := by
  unfold orderB
  refine decide_eq_false fun hh => ?_
  rcases (hh k h).2 j h' hj with h1 | h1
  · rw [hap] at h1; simp at h1
  · omega

set_option maxRecDepth 100000 in
set_option maxHeartbeats 6400000 in
theorem sTrcSame_any (c : Bus) (v0 v1 v2 : Value) (fp0 fp1 fp2 : List Nat) (va : Value) (a : List Ev) (fa : List Nat) (vb : Value) (b : List Ev) (fb : List Nat) (w : World) (g0 : SlR 4 mrR w c.map v0 fp0) (g1 : SlR 1 intR w c.lat v1 fp1) (g2 : SlR 1 (slR 7 reqR) w c.progs v2 fp2) (ga : SlR 3 evR w a va fa) (gb : SlR 3 evR w b vb fb) :
    Calls Try.prog 31 #[.agg #[v0, v1, v2], va, vb] w fun e' w' => e' = .returned (.bool (trcSame c a b)) ∧ Below w.heap.size w w' := by
  obtain ⟨a1, n, c1, rfl, hn, hcap, hmax, hcm, -⟩ := ga.opened
  obtain ⟨a2, mb, c2, rfl, hm, -, hmx2, -, -⟩ := gb.opened
  have hb := below_alloc w (.cells #[v0, v1, v2] 32)
  have G0 := Lib.hid (SlR.below mrR_fits g0 hb)
  have G1 := Lib.hid (SlR.below intR_fits g1 hb)
  have G2 := Lib.hid (SlR.below (slR_fits reqR_fits) g2 hb)
  have GA := Lib.hid (SlR.below evR_fits ga hb)
  have GB := Lib.hid (SlR.below evR_fits gb hb)
  have B := Lib.hid hb
  have HL : Hid (decide (a.length = b.length) = !((n : Int) != mb)) := Lib.hid (by rw [hn.out, hm.out, Bool.eq_iff_iff]; simp; omega)
  have X0 : (w.alloc (.cells #[v0, v1, v2] 32)).cell? ⟨w.heap.size, 0, none⟩ = some v0 := alloc1_new _ _ _ 0 rfl
  have X1 : (w.alloc (.cells #[v0, v1, v2] 32)).cell? ⟨w.heap.size, 1, none⟩ = some v1 := alloc1_new _ _ _ 1 rfl
  have X2 : (w.alloc (.cells #[v0, v1, v2] 32)).cell? ⟨w.heap.size, 2, none⟩ = some v2 := alloc1_new _ _ _ 2 rfl
  clear hb g0 g1 g2 ga gb
  cases q1 : tracedB c a
  case' true =>
    cases q2 : tracedB c b
    case' true =>
      cases q3 : ((n : Int) != mb)
      case' false =>
        cases q4 : onceB a
        case' true => cases q5 : onceB b
  case false =>
    have Q1 := Lib.hid q1
    clear q1
    go_enter Try.func31, Try.ntmps31
    go_upto_region 1 with fail
    generalize w.alloc (.cells #[v0, v1, v2] 32) = w0 at *
    go_wp2_with fail
    refine (l9All_any c _ _ _ fp0 fp1 fp2 _ a fa _ G0.out G1.out G2.out GA.out).mono ?_
    rw [Q1.out]
    rintro e w2 ⟨rfl, b⟩
    replace G0 := Lib.hid (SlR.below mrR_fits G0.out b)
    replace G1 := Lib.hid (SlR.below intR_fits G1.out b)
    replace G2 := Lib.hid (SlR.below (slR_fits reqR_fits) G2.out b)
    replace GA := Lib.hid (SlR.below evR_fits GA.out b)
    replace GB := Lib.hid (SlR.below evR_fits GB.out b)
    replace X0 := keep_cell b X0
    replace X1 := keep_cell b X1
    replace X2 := keep_cell b X2
    replace B := Lib.hid (B.out.trans (b.mono B.out.size))
    clear b
    go_wp2
    go_ret
    exact ⟨ret_bool (by unfold trcSame; rw [HL.out, Q1.out]; rfl), B.out⟩
  case true.false =>
    have Q1 := Lib.hid q1
    have Q2 := Lib.hid q2
    clear q1 q2
    go_enter Try.func31, Try.ntmps31
    go_upto_region 1 with fail
    generalize w.alloc (.cells #[v0, v1, v2] 32) = w0 at *
    go_wp2_with fail
    refine (l9All_any c _ _ _ fp0 fp1 fp2 _ a fa _ G0.out G1.out G2.out GA.out).mono ?_
    rw [Q1.out]
    rintro e w2 ⟨rfl, b⟩
    replace G0 := Lib.hid (SlR.below mrR_fits G0.out b)
    replace G1 := Lib.hid (SlR.below intR_fits G1.out b)
    replace G2 := Lib.hid (SlR.below (slR_fits reqR_fits) G2.out b)
    replace GA := Lib.hid (SlR.below evR_fits GA.out b)
    replace GB := Lib.hid (SlR.below evR_fits GB.out b)
    replace X0 := keep_cell b X0
    replace X1 := keep_cell b X1
    replace X2 := keep_cell b X2
    replace B := Lib.hid (B.out.trans (b.mono B.out.size))
    clear b
    go_wp2_with fail
    refine (l9All_any c _ _ _ fp0 fp1 fp2 _ b fb _ G0.out G1.out G2.out GB.out).mono ?_
    rw [Q2.out]
    rintro e w2 ⟨rfl, b⟩
    replace G0 := Lib.hid (SlR.below mrR_fits G0.out b)
    replace G1 := Lib.hid (SlR.below intR_fits G1.out b)
    replace G2 := Lib.hid (SlR.below (slR_fits reqR_fits) G2.out b)
    replace GA := Lib.hid (SlR.below evR_fits GA.out b)
    replace GB := Lib.hid (SlR.below evR_fits GB.out b)
    replace X0 := keep_cell b X0
    replace X1 := keep_cell b X1
    replace X2 := keep_cell b X2
    replace B := Lib.hid (B.out.trans (b.mono B.out.size))
    clear b
    go_wp2
    go_ret
    exact ⟨ret_bool (by unfold trcSame; rw [HL.out, Q1.out, Q2.out]; rfl), B.out⟩
  case true.true.true =>
    have Q1 := Lib.hid q1
    have Q2 := Lib.hid q2
    have Q3 := Lib.hid q3
    clear q1 q2
    go_enter Try.func31, Try.ntmps31
    go_upto_region 1 with fail
    generalize w.alloc (.cells #[v0, v1, v2] 32) = w0 at *
    go_wp2_with fail
    refine (l9All_any c _ _ _ fp0 fp1 fp2 _ a fa _ G0.out G1.out G2.out GA.out).mono ?_
    rw [Q1.out]
    rintro e w2 ⟨rfl, b⟩
    replace G0 := Lib.hid (SlR.below mrR_fits G0.out b)
    replace G1 := Lib.hid (SlR.below intR_fits G1.out b)
    replace G2 := Lib.hid (SlR.below (slR_fits reqR_fits) G2.out b)
    replace GA := Lib.hid (SlR.below evR_fits GA.out b)
    replace GB := Lib.hid (SlR.below evR_fits GB.out b)
    replace X0 := keep_cell b X0
    replace X1 := keep_cell b X1
    replace X2 := keep_cell b X2
    replace B := Lib.hid (B.out.trans (b.mono B.out.size))
    clear b
    go_wp2_with fail
    refine (l9All_any c _ _ _ fp0 fp1 fp2 _ b fb _ G0.out G1.out G2.out GB.out).mono ?_
    rw [Q2.out]
    rintro e w2 ⟨rfl, b⟩
    replace G0 := Lib.hid (SlR.below mrR_fits G0.out b)
    replace G1 := Lib.hid (SlR.below intR_fits G1.out b)
    replace G2 := Lib.hid (SlR.below (slR_fits reqR_fits) G2.out b)
    replace GA := Lib.hid (SlR.below evR_fits GA.out b)
    replace GB := Lib.hid (SlR.below evR_fits GB.out b)
    replace X0 := keep_cell b X0
    replace X1 := keep_cell b X1
    replace X2 := keep_cell b X2
    replace B := Lib.hid (B.out.trans (b.mono B.out.size))
    clear b
    go_wp2
    go_ret
    exact ⟨ret_bool (by unfold trcSame; rw [HL.out, Q1.out, Q2.out, Q3.out]; rfl), B.out⟩
  case true.true.false.false =>
    have Q1 := Lib.hid q1
    have Q2 := Lib.hid q2
    have Q3 := Lib.hid q3
    have Q4 := Lib.hid q4
    clear q1 q2 q4
    go_enter Try.func31, Try.ntmps31
    go_upto_region 1 with fail
    generalize w.alloc (.cells #[v0, v1, v2] 32) = w0 at *
    go_wp2_with fail
    refine (l9All_any c _ _ _ fp0 fp1 fp2 _ a fa _ G0.out G1.out G2.out GA.out).mono ?_
    rw [Q1.out]
    rintro e w2 ⟨rfl, b⟩
    replace G0 := Lib.hid (SlR.below mrR_fits G0.out b)
    replace G1 := Lib.hid (SlR.below intR_fits G1.out b)
    replace G2 := Lib.hid (SlR.below (slR_fits reqR_fits) G2.out b)
    replace GA := Lib.hid (SlR.below evR_fits GA.out b)
    replace GB := Lib.hid (SlR.below evR_fits GB.out b)
    replace X0 := keep_cell b X0
    replace X1 := keep_cell b X1
    replace X2 := keep_cell b X2
    replace B := Lib.hid (B.out.trans (b.mono B.out.size))
    clear b
    go_wp2_with fail
    refine (l9All_any c _ _ _ fp0 fp1 fp2 _ b fb _ G0.out G1.out G2.out GB.out).mono ?_
    rw [Q2.out]
    rintro e w2 ⟨rfl, b⟩
    replace G0 := Lib.hid (SlR.below mrR_fits G0.out b)
    replace G1 := Lib.hid (SlR.below intR_fits G1.out b)
    replace G2 := Lib.hid (SlR.below (slR_fits reqR_fits) G2.out b)
    replace GA := Lib.hid (SlR.below evR_fits GA.out b)
    replace GB := Lib.hid (SlR.below evR_fits GB.out b)
    replace X0 := keep_cell b X0
    replace X1 := keep_cell b X1
    replace X2 := keep_cell b X2
    replace B := Lib.hid (B.out.trans (b.mono B.out.size))
    clear b
    go_wp2_with fail
    refine (l9Once_any _ a fa _ GA.out).mono ?_
    rw [Q4.out]
    rintro e w2 ⟨rfl, b⟩
    replace G0 := Lib.hid (SlR.below mrR_fits G0.out b)
    replace G1 := Lib.hid (SlR.below intR_fits G1.out b)
    replace G2 := Lib.hid (SlR.below (slR_fits reqR_fits) G2.out b)
    replace GA := Lib.hid (SlR.below evR_fits GA.out b)
    replace GB := Lib.hid (SlR.below evR_fits GB.out b)
    replace X0 := keep_cell b X0
    replace X1 := keep_cell b X1
    replace X2 := keep_cell b X2
    replace B := Lib.hid (B.out.trans (b.mono B.out.size))
    clear b
    go_wp2
    go_ret
    exact ⟨ret_bool (by unfold trcSame; rw [HL.out, Q1.out, Q2.out, Q3.out, Q4.out]; rfl), B.out⟩
  case true.true.false.true.false =>
    have Q1 := Lib.hid q1
    have Q2 := Lib.hid q2
    have Q3 := Lib.hid q3
    have Q4 := Lib.hid q4
    have Q5 := Lib.hid q5
    clear q1 q2 q4 q5
    go_enter Try.func31, Try.ntmps31
    go_upto_region 1 with fail
    generalize w.alloc (.cells #[v0, v1, v2] 32) = w0 at *
    go_wp2_with fail
    refine (l9All_any c _ _ _ fp0 fp1 fp2 _ a fa _ G0.out G1.out G2.out GA.out).mono ?_
    rw [Q1.out]
    rintro e w2 ⟨rfl, b⟩
    replace G0 := Lib.hid (SlR.below mrR_fits G0.out b)
    replace G1 := Lib.hid (SlR.below intR_fits G1.out b)
    replace G2 := Lib.hid (SlR.below (slR_fits reqR_fits) G2.out b)
    replace GA := Lib.hid (SlR.below evR_fits GA.out b)
    replace GB := Lib.hid (SlR.below evR_fits GB.out b)
    replace X0 := keep_cell b X0
    replace X1 := keep_cell b X1
    replace X2 := keep_cell b X2
    replace B := Lib.hid (B.out.trans (b.mono B.out.size))
    clear b
    go_wp2_with fail
    refine (l9All_any c _ _ _ fp0 fp1 fp2 _ b fb _ G0.out G1.out G2.out GB.out).mono ?_
    rw [Q2.out]
    rintro e w2 ⟨rfl, b⟩
    replace G0 := Lib.hid (SlR.below mrR_fits G0.out b)
    replace G1 := Lib.hid (SlR.below intR_fits G1.out b)
    replace G2 := Lib.hid (SlR.below (slR_fits reqR_fits) G2.out b)
    replace GA := Lib.hid (SlR.below evR_fits GA.out b)
    replace GB := Lib.hid (SlR.below evR_fits GB.out b)
    replace X0 := keep_cell b X0
    replace X1 := keep_cell b X1
    replace X2 := keep_cell b X2
    replace B := Lib.hid (B.out.trans (b.mono B.out.size))
    clear b
    go_wp2_with fail
    refine (l9Once_any _ a fa _ GA.out).mono ?_
    rw [Q4.out]
    rintro e w2 ⟨rfl, b⟩
    replace G0 := Lib.hid (SlR.below mrR_fits G0.out b)
    replace G1 := Lib.hid (SlR.below intR_fits G1.out b)
    replace G2 := Lib.hid (SlR.below (slR_fits reqR_fits) G2.out b)
    replace GA := Lib.hid (SlR.below evR_fits GA.out b)
    replace GB := Lib.hid (SlR.below evR_fits GB.out b)
    replace X0 := keep_cell b X0
    replace X1 := keep_cell b X1
    replace X2 := keep_cell b X2
    replace B := Lib.hid (B.out.trans (b.mono B.out.size))
    clear b
    go_wp2_with fail
    refine (l9Once_any _ b fb _ GB.out).mono ?_
    rw [Q5.out]
    rintro e w2 ⟨rfl, b⟩
    replace G0 := Lib.hid (SlR.below mrR_fits G0.out b)
    replace G1 := Lib.hid (SlR.below intR_fits G1.out b)
    replace G2 := Lib.hid (SlR.below (slR_fits reqR_fits) G2.out b)
    replace GA := Lib.hid (SlR.below evR_fits GA.out b)
    replace GB := Lib.hid (SlR.below evR_fits GB.out b)
    replace X0 := keep_cell b X0
    replace X1 := keep_cell b X1
    replace X2 := keep_cell b X2
    replace B := Lib.hid (B.out.trans (b.mono B.out.size))
    clear b
    go_wp2
    go_ret
    exact ⟨ret_bool (by unfold trcSame; rw [HL.out, Q1.out, Q2.out, Q3.out, Q4.out, Q5.out]; rfl), B.out⟩
  case true.true.false.true.true =>
    have Q1 := Lib.hid q1
    have Q2 := Lib.hid q2
    have Q3 := Lib.hid q3
    have Q4 := Lib.hid q4
    have Q5 := Lib.hid q5
    clear q1 q2 q4 q5
    go_enter Try.func31, Try.ntmps31
    go_upto_region 1 with fail
    generalize w.alloc (.cells #[v0, v1, v2] 32) = w0 at *
    go_wp2_with fail
    refine (l9All_any c _ _ _ fp0 fp1 fp2 _ a fa _ G0.out G1.out G2.out GA.out).mono ?_
    rw [Q1.out]
    rintro e w2 ⟨rfl, b⟩
    replace G0 := Lib.hid (SlR.below mrR_fits G0.out b)
    replace G1 := Lib.hid (SlR.below intR_fits G1.out b)
    replace G2 := Lib.hid (SlR.below (slR_fits reqR_fits) G2.out b)
    replace GA := Lib.hid (SlR.below evR_fits GA.out b)
    replace GB := Lib.hid (SlR.below evR_fits GB.out b)
    replace X0 := keep_cell b X0
    replace X1 := keep_cell b X1
    replace X2 := keep_cell b X2
    replace B := Lib.hid (B.out.trans (b.mono B.out.size))
    clear b
    go_wp2_with fail
    refine (l9All_any c _ _ _ fp0 fp1 fp2 _ b fb _ G0.out G1.out G2.out GB.out).mono ?_
    rw [Q2.out]
    rintro e w2 ⟨rfl, b⟩
    replace G0 := Lib.hid (SlR.below mrR_fits G0.out b)
    replace G1 := Lib.hid (SlR.below intR_fits G1.out b)
    replace G2 := Lib.hid (SlR.below (slR_fits reqR_fits) G2.out b)
    replace GA := Lib.hid (SlR.below evR_fits GA.out b)
    replace GB := Lib.hid (SlR.below evR_fits GB.out b)
    replace X0 := keep_cell b X0
    replace X1 := keep_cell b X1
    replace X2 := keep_cell b X2
    replace B := Lib.hid (B.out.trans (b.mono B.out.size))
    clear b
    go_wp2_with fail
    refine (l9Once_any _ a fa _ GA.out).mono ?_
    rw [Q4.out]
    rintro e w2 ⟨rfl, b⟩
    replace G0 := Lib.hid (SlR.below mrR_fits G0.out b)
    replace G1 := Lib.hid (SlR.below intR_fits G1.out b)
    replace G2 := Lib.hid (SlR.below (slR_fits reqR_fits) G2.out b)
    replace GA := Lib.hid (SlR.below evR_fits GA.out b)
    replace GB := Lib.hid (SlR.below evR_fits GB.out b)
    replace X0 := keep_cell b X0
    replace X1 := keep_cell b X1
    replace X2 := keep_cell b X2
    replace B := Lib.hid (B.out.trans (b.mono B.out.size))
    clear b
    go_wp2_with fail
    refine (l9Once_any _ b fb _ GB.out).mono ?_
    rw [Q5.out]
    rintro e w2 ⟨rfl, b⟩
    replace G0 := Lib.hid (SlR.below mrR_fits G0.out b)
    replace G1 := Lib.hid (SlR.below intR_fits G1.out b)
    replace G2 := Lib.hid (SlR.below (slR_fits reqR_fits) G2.out b)
    replace GA := Lib.hid (SlR.below evR_fits GA.out b)
    replace GB := Lib.hid (SlR.below evR_fits GB.out b)
    replace X0 := keep_cell b X0
    replace X1 := keep_cell b X1
    replace X2 := keep_cell b X2
    replace B := Lib.hid (B.out.trans (b.mono B.out.size))
    clear b
    obtain ⟨_, _, _, ea, -, -, -, -, r⟩ := GA.out.opened
    simp only [Value.slice.injEq] at ea
    obtain ⟨rfl, rfl, rfl⟩ := ea
    have HT := Lib.hid (traced_at Q1.out).2.2
    have HPl := Lib.hid (busOk_progs (traced_at Q1.out).1)
    have HS : Hid (trcSame c a b = orderB c a b) := Lib.hid (by unfold trcSame; rw [HL.out, Q1.out, Q2.out, Q3.out, Q4.out, Q5.out]; rfl)
    go_wp2_with fail
    go_loopw [7] (fun i wr => ∃ k : Nat, k ≤ n ∧ i = .int .i64 k ∧ (∀ t (h : t < a.length), t < k → 0 ≤ evAt b a[t] ∧ ∀ j (h' : j < a.length), j < t → apartB c a[j] a[t] = true ∨ evAt b a[j] ≤ evAt b a[t]) ∧ Below w2.heap.size w2 wr) (fun i _ => n - (intOf i).toNat)
    case atStart => exact ⟨0, Nat.zero_le _, rfl, fun j _ h => absurd h (Nat.not_lt_zero j), Below.refl _ _⟩
    case round =>
      obtain ⟨k, hk, rfl, hp, hbel⟩ := hrel
      have HP := Lib.hid hp
      have HB := Lib.hid hbel
      clear hp
      by_cases hlt : k < n
      · obtain ⟨i1, b1, o1, f1, cs, rfl, hb1, _, _, ⟨rfl, rfl⟩, e1⟩ := r k hlt
        have s0 := e1 0 (by simp)
        have s1 := e1 1 (by simp)
        have s2 := e1 2 (by simp)
        simp only [Nat.add_zero, List.getElem_cons_zero, List.getElem_cons_succ] at s0 s1 s2
        have c0 := keep_cell hbel s0
        have c1' := keep_cell hbel s1
        have c2' := keep_cell hbel s2
        have GB1 := Lib.hid (SlR.below evR_fits GB.out hbel)
        obtain ⟨z, hz⟩ : ∃ z, evAt b a[k] = z := ⟨_, rfl⟩
        have HZ := Lib.hid hz
        clear e1 hbel hz
        go_wp2_with fail
        refine (l9At_any _ b fb a[k] _ GB1.out).mono ?_
        rw [HZ.out]
        rintro e w3 ⟨rfl, bb⟩
        have HB2 := Lib.hid (HB.out.trans (bb.mono HB.out.size))
        clear bb c0 c1' c2'
        by_cases hz0 : z < 0
        · clear r
          go_wp2
          go_ret
          exact ⟨ret_bool (by rw [HS.out]; exact (order_no i1 (by rw [HZ.out]; exact hz0)).symm), B.out.trans (HB2.out.mono B.out.size)⟩
        · go_wp2_with fail
          go_loopw [9] (fun i wr => ∃ j : Nat, j ≤ k ∧ i = .int .i64 j ∧ (∀ t (h : t < a.length), t < j → apartB c a[t] a[k] = true ∨ evAt b a[t] ≤ z) ∧ Below w2.heap.size w2 wr) (fun i _ => k - (intOf i).toNat)
          case atStart => exact ⟨0, Nat.zero_le _, rfl, fun t _ h => absurd h (Nat.not_lt_zero t), HB2.out⟩
          case round =>
            clear HB HB2
            obtain ⟨j, hj, rfl, hq, hbel⟩ := hrel
            have HQ := Lib.hid hq
            have HB := Lib.hid hbel
            clear hq
            by_cases hjk : j < k
            · obtain ⟨i2, b2, o2, f2, cs, ea, hb2, _, _, ⟨rfl, rfl⟩, e2⟩ := r j (by omega)
              simp only [Option.some.injEq, Addr.mk.injEq, and_true] at ea
              obtain ⟨rfl, rfl⟩ := ea
              have hjn : (j : Int) < (n : Int) := by omega
              have d0 := keep_cell hbel (e2 0 (by simp))
              have d1 := keep_cell hbel (e2 1 (by simp))
              have d2 := keep_cell hbel (e2 2 (by simp))
              simp only [Nat.add_zero, List.getElem_cons_zero, List.getElem_cons_succ] at d0 d1 d2
              have c0 := keep_cell hbel s0
              have c1' := keep_cell hbel s1
              have c2' := keep_cell hbel s2
              have x0 := keep_cell hbel X0
              have x1 := keep_cell hbel X1
              have x2 := keep_cell hbel X2
              have G2a := Lib.hid (SlR.below (slR_fits reqR_fits) G2.out hbel)
              have GB2 := Lib.hid (SlR.below evR_fits GB.out hbel)
              have ha := evOk_asksB (HT.out j i2)
              have hk' := evOk_asksB (HT.out k i1)
              obtain ⟨y, hy⟩ : ∃ z, evAt b a[j] = z := ⟨_, rfl⟩
              obtain ⟨p, hp⟩ : ∃ z, apartB c a[j] a[k] = z := ⟨_, rfl⟩
              have HY := Lib.hid hy
              have HAp := Lib.hid hp
              have HA1 := Lib.hid ha
              have HA2 := Lib.hid hk'
              clear e2 r hbel hy hp ha hk' s0 s1 s2 X0 X1 X2
              cases p
              · go_wp2_with fail
                have hst : ∀ F, F ∈ [FEq (.agg #[v0, v1, v2]), FEq (.slice (some ⟨b1, o1, none⟩) n c1), FEq (.int .i64 (j : Int)), FEq (.pointer (some ⟨b1, o1 + j * 3, none⟩)), FEq (.agg #[.int .i64 a[j].kind, .int .i64 a[j].who, .int .i64 a[j].n]), FEq (.slice (some ⟨b1, o1, none⟩) n c1), FEq (.int .i64 (k : Int)), FEq (.pointer (some ⟨b1, o1 + k * 3, none⟩)), FEq (.agg #[.int .i64 a[k].kind, .int .i64 a[k].who, .int .i64 a[k].n]), FEq (.bool false), FEq (.bool true), FEq (.bool true), FEq (.slice a2 mb c2), FEq (.slice (some ⟨b1, o1, none⟩) n c1), FEq (.int .i64 (j : Int)), FEq (.pointer (some ⟨b1, o1 + j * 3, none⟩)), FEq (.agg #[.int .i64 a[j].kind, .int .i64 a[j].who, .int .i64 a[j].n]), FEq (.int .i64 y), FEq (.int .i64 z)] → Stable [] F := by
                  simp only [List.forall_mem_cons]
                  exact ⟨stEq _ _, stEq _ _, stEq _ _, stEq _ _, stEq _ _, stEq _ _, stEq _ _, stEq _ _, stEq _ _, stEq _ _, stEq _ _, stEq _ _, stEq _ _, stEq _ _, stEq _ _, stEq _ _, stEq _ _, stEq _ _, stEq _ _, fun _ h => by simp at h⟩
                refine wp_region_tail (by kernel_rfl) (fun i => ([[], [], [], [1, 2], [1, 2, 3], [], [], [5, 6], [5, 6, 7], [0, 1, 2, 3, 4, 5, 6, 7, 8], [0, 1, 2, 3, 4, 5, 6, 7, 8, 9], [0, 1, 2, 3, 4, 5, 6, 7, 8, 9, 10], [0, 1, 2, 3, 4, 5, 6, 7, 8, 9, 10, 11], [0, 1, 2, 3, 4, 5, 6, 7, 8, 9, 10, 11], [0, 1, 2, 3, 4, 5, 6, 7, 8, 9, 10, 11], [0, 1, 2, 3, 4, 5, 6, 7, 8, 9, 10, 11, 13, 14], [0, 1, 2, 3, 4, 5, 6, 7, 8, 9, 10, 11, 13, 14, 15], [0, 1, 2, 3, 4, 5, 6, 7, 8, 9, 10, 11, 12, 13, 14, 15, 16], [0, 1, 2, 3, 4, 5, 6, 7, 8, 9, 10, 11], [0, 1, 2, 3, 4, 5, 6, 7, 8, 9, 10, 11, 12, 13, 14, 15, 16, 17, 18], [0, 1, 2, 3, 4, 5, 6, 7, 8, 9, 10, 11, 12, 13, 14, 15, 16, 17, 18, 19]] : List (List Nat)).getD i []) (facts [FEq (.agg #[v0, v1, v2]), FEq (.slice (some ⟨b1, o1, none⟩) n c1), FEq (.int .i64 (j : Int)), FEq (.pointer (some ⟨b1, o1 + j * 3, none⟩)), FEq (.agg #[.int .i64 a[j].kind, .int .i64 a[j].who, .int .i64 a[j].n]), FEq (.slice (some ⟨b1, o1, none⟩) n c1), FEq (.int .i64 (k : Int)), FEq (.pointer (some ⟨b1, o1 + k * 3, none⟩)), FEq (.agg #[.int .i64 a[k].kind, .int .i64 a[k].who, .int .i64 a[k].n]), FEq (.bool false), FEq (.bool true), FEq (.bool true), FEq (.slice a2 mb c2), FEq (.slice (some ⟨b1, o1, none⟩) n c1), FEq (.int .i64 (j : Int)), FEq (.pointer (some ⟨b1, o1 + j * 3, none⟩)), FEq (.agg #[.int .i64 a[j].kind, .int .i64 a[j].who, .int .i64 a[j].n]), FEq (.int .i64 y), FEq (.int .i64 z)]) (fun m w' => Below wr.heap.size wr w') 77 21 19 [some 56, some 57, some 58, some 59, some 60, some 61, some 62, some 63, some 64, some 65, some 66, some 67, some 68, some 69, some 70, some 71, some 72, some 73, some 74] _ rfl rfl (by decide) rfl rfl (by kernel_rfl) (by kernel_rfl) [(11, true)] (by kernel_rfl) (fun g b hm v w h => by simp only [List.mem_cons, List.not_mem_nil, or_false, Prod.mk.injEq] at hm; obtain ⟨rfl, rfl⟩ := hm; exact h) ?h0 (all_lt (n := 19) ?hop) ?hend
                case h0 => exact (Below.refl _ _).drew
                case hop =>
                  refine ⟨⟨⟨⟨⟨⟨⟨⟨⟨⟨⟨⟨⟨⟨⟨⟨⟨⟨⟨trivial, ?_⟩, ?_⟩, ?_⟩, ?_⟩, ?_⟩, ?_⟩, ?_⟩, ?_⟩, ?_⟩, ?_⟩, ?_⟩, ?_⟩, ?_⟩, ?_⟩, ?_⟩, ?_⟩, ?_⟩, ?_⟩, ?_⟩
                  · refine Owes.mk _ rfl rfl (fun _ _ h => by cases h) fun u m w' hm hI hR => ⟨⟨#[undef, undef, undef, .pointer (some ⟨w.heap.size, 0, none⟩), undef, undef, undef, undef, undef, undef, undef, undef, undef, undef, undef, undef, undef, undef, undef, undef, undef, undef, undef, undef, undef, undef, undef, undef, undef, undef, undef, undef, undef, undef, undef, undef, undef, undef, undef, undef, undef, undef, undef, undef, undef, undef, undef, undef, undef, undef, undef, undef, undef, undef, undef, undef, undef, undef, undef, undef, undef, undef, undef, undef, undef, undef, undef, undef, undef, undef, undef, undef, undef, undef, undef, undef, undef], []⟩, rfl, fun d hd => by cases hd; exact (by decide : 56 < 77), ?_⟩
                    have k0 := keep_cell hI c0
                    have k1 := keep_cell hI c1'
                    have k2 := keep_cell hI c2'
                    have k3 := keep_cell hI d0
                    have k4 := keep_cell hI d1
                    have k5 := keep_cell hI d2
                    have k6 := keep_cell hI x0
                    have k7 := keep_cell hI x1
                    have k8 := keep_cell hI x2
                    have HI := Lib.hid hI
                    clear hI hst hR
                    go_wp2
                    exact ⟨rfl, _, rfl, rfl, HI.out, fun _ _ h => h⟩
                  · refine Owes.mk _ rfl rfl (fun _ _ h => by cases h) fun u m w' hm hI hR => ⟨⟨#[undef, .slice (some ⟨b1, o1, none⟩) n c1, undef, undef, undef, undef, undef, undef, undef, undef, undef, undef, undef, undef, undef, undef, undef, undef, undef, undef, undef, undef, undef, undef, undef, undef, undef, undef, undef, undef, undef, undef, undef, undef, undef, undef, undef, undef, undef, undef, undef, undef, undef, undef, undef, undef, undef, undef, undef, undef, undef, undef, undef, undef, undef, undef, undef, undef, undef, undef, undef, undef, undef, undef, undef, undef, undef, undef, undef, undef, undef, undef, undef, undef, undef, undef, undef], []⟩, rfl, fun d hd => by cases hd; exact (by decide : 57 < 77), ?_⟩
                    have k0 := keep_cell hI c0
                    have k1 := keep_cell hI c1'
                    have k2 := keep_cell hI c2'
                    have k3 := keep_cell hI d0
                    have k4 := keep_cell hI d1
                    have k5 := keep_cell hI d2
                    have k6 := keep_cell hI x0
                    have k7 := keep_cell hI x1
                    have k8 := keep_cell hI x2
                    have HI := Lib.hid hI
                    clear hI hst hR
                    go_wp2
                    exact ⟨rfl, _, rfl, rfl, HI.out, fun _ _ h => h⟩
                  · refine Owes.mk _ rfl rfl (fun _ _ h => by cases h) fun u m w' hm hI hR => ⟨⟨#[undef, undef, undef, undef, undef, undef, undef, undef, undef, .int .i64 (j : Int), undef, undef, undef, undef, undef, undef, undef, undef, undef, undef, undef, undef, undef, undef, undef, undef, undef, undef, undef, undef, undef, undef, undef, undef, undef, undef, undef, undef, undef, undef, undef, undef, undef, undef, undef, undef, undef, undef, undef, undef, undef, undef, undef, undef, undef, undef, undef, undef, undef, undef, undef, undef, undef, undef, undef, undef, undef, undef, undef, undef, undef, undef, undef, undef, undef, undef, undef], []⟩, rfl, fun d hd => by cases hd; exact (by decide : 58 < 77), ?_⟩
                    have k0 := keep_cell hI c0
                    have k1 := keep_cell hI c1'
                    have k2 := keep_cell hI c2'
                    have k3 := keep_cell hI d0
                    have k4 := keep_cell hI d1
                    have k5 := keep_cell hI d2
                    have k6 := keep_cell hI x0
                    have k7 := keep_cell hI x1
                    have k8 := keep_cell hI x2
                    have HI := Lib.hid hI
                    clear hI hst hR
                    go_wp2
                    exact ⟨rfl, _, rfl, rfl, HI.out, fun _ _ h => h⟩
                  · refine Owes.mk _ rfl rfl (fun _ _ h => by cases h) fun u m w' hm hI hR => ⟨⟨#[undef, undef, undef, undef, undef, undef, undef, undef, undef, undef, undef, undef, undef, undef, undef, undef, undef, undef, undef, undef, undef, undef, undef, undef, undef, undef, undef, undef, undef, undef, undef, undef, undef, undef, undef, undef, undef, undef, undef, undef, undef, undef, undef, undef, undef, undef, undef, undef, undef, undef, undef, undef, undef, undef, undef, undef, undef, u 1, u 2, undef, undef, undef, undef, undef, undef, undef, undef, undef, undef, undef, undef, undef, undef, undef, undef, undef, undef], []⟩, rfl, fun d hd => by cases hd; exact (by decide : 59 < 77), ?_⟩
                    have e1 : u 1 = _ := hR 1 (by decide)
                    have e2 : u 2 = _ := hR 2 (by decide)
                    have k0 := keep_cell hI c0
                    have k1 := keep_cell hI c1'
                    have k2 := keep_cell hI c2'
                    have k3 := keep_cell hI d0
                    have k4 := keep_cell hI d1
                    have k5 := keep_cell hI d2
                    have k6 := keep_cell hI x0
                    have k7 := keep_cell hI x1
                    have k8 := keep_cell hI x2
                    have HI := Lib.hid hI
                    clear hI hst hR
                    rw [e1, e2]
                    clear e1 e2
                    go_wp2
                    exact ⟨rfl, _, rfl, rfl, HI.out, fun _ _ h => h⟩
                  · refine Owes.mk _ rfl rfl (fun _ _ h => by cases h) fun u m w' hm hI hR => ⟨⟨#[undef, undef, undef, undef, undef, undef, undef, undef, undef, undef, undef, undef, undef, undef, undef, undef, undef, undef, undef, undef, undef, undef, undef, undef, undef, undef, undef, undef, undef, undef, undef, undef, undef, undef, undef, undef, undef, undef, undef, undef, undef, undef, undef, undef, undef, undef, undef, undef, undef, undef, undef, undef, undef, undef, undef, undef, undef, undef, undef, u 3, undef, undef, undef, undef, undef, undef, undef, undef, undef, undef, undef, undef, undef, undef, undef, undef, undef], []⟩, rfl, fun d hd => by cases hd; exact (by decide : 60 < 77), ?_⟩
                    have e3 : u 3 = _ := hR 3 (by decide)
                    have k0 := keep_cell hI c0
                    have k1 := keep_cell hI c1'
                    have k2 := keep_cell hI c2'
                    have k3 := keep_cell hI d0
                    have k4 := keep_cell hI d1
                    have k5 := keep_cell hI d2
                    have k6 := keep_cell hI x0
                    have k7 := keep_cell hI x1
                    have k8 := keep_cell hI x2
                    have HI := Lib.hid hI
                    clear hI hst hR
                    rw [e3]
                    clear e3
                    go_wp2
                    exact ⟨rfl, _, rfl, rfl, HI.out, fun _ _ h => h⟩
                  · refine Owes.mk _ rfl rfl (fun _ _ h => by cases h) fun u m w' hm hI hR => ⟨⟨#[undef, .slice (some ⟨b1, o1, none⟩) n c1, undef, undef, undef, undef, undef, undef, undef, undef, undef, undef, undef, undef, undef, undef, undef, undef, undef, undef, undef, undef, undef, undef, undef, undef, undef, undef, undef, undef, undef, undef, undef, undef, undef, undef, undef, undef, undef, undef, undef, undef, undef, undef, undef, undef, undef, undef, undef, undef, undef, undef, undef, undef, undef, undef, undef, undef, undef, undef, undef, undef, undef, undef, undef, undef, undef, undef, undef, undef, undef, undef, undef, undef, undef, undef, undef], []⟩, rfl, fun d hd => by cases hd; exact (by decide : 61 < 77), ?_⟩
                    have k0 := keep_cell hI c0
                    have k1 := keep_cell hI c1'
                    have k2 := keep_cell hI c2'
                    have k3 := keep_cell hI d0
                    have k4 := keep_cell hI d1
                    have k5 := keep_cell hI d2
                    have k6 := keep_cell hI x0
                    have k7 := keep_cell hI x1
                    have k8 := keep_cell hI x2
                    have HI := Lib.hid hI
                    clear hI hst hR
                    go_wp2
                    exact ⟨rfl, _, rfl, rfl, HI.out, fun _ _ h => h⟩
                  · refine Owes.mk _ rfl rfl (fun _ _ h => by cases h) fun u m w' hm hI hR => ⟨⟨#[undef, undef, undef, undef, undef, undef, undef, .int .i64 (k : Int), undef, undef, undef, undef, undef, undef, undef, undef, undef, undef, undef, undef, undef, undef, undef, undef, undef, undef, undef, undef, undef, undef, undef, undef, undef, undef, undef, undef, undef, undef, undef, undef, undef, undef, undef, undef, undef, undef, undef, undef, undef, undef, undef, undef, undef, undef, undef, undef, undef, undef, undef, undef, undef, undef, undef, undef, undef, undef, undef, undef, undef, undef, undef, undef, undef, undef, undef, undef, undef], []⟩, rfl, fun d hd => by cases hd; exact (by decide : 62 < 77), ?_⟩
                    have k0 := keep_cell hI c0
                    have k1 := keep_cell hI c1'
                    have k2 := keep_cell hI c2'
                    have k3 := keep_cell hI d0
                    have k4 := keep_cell hI d1
                    have k5 := keep_cell hI d2
                    have k6 := keep_cell hI x0
                    have k7 := keep_cell hI x1
                    have k8 := keep_cell hI x2
                    have HI := Lib.hid hI
                    clear hI hst hR
                    go_wp2
                    exact ⟨rfl, _, rfl, rfl, HI.out, fun _ _ h => h⟩
                  · refine Owes.mk _ rfl rfl (fun _ _ h => by cases h) fun u m w' hm hI hR => ⟨⟨#[undef, undef, undef, undef, undef, undef, undef, undef, undef, undef, undef, undef, undef, undef, undef, undef, undef, undef, undef, undef, undef, undef, undef, undef, undef, undef, undef, undef, undef, undef, undef, undef, undef, undef, undef, undef, undef, undef, undef, undef, undef, undef, undef, undef, undef, undef, undef, undef, undef, undef, undef, undef, undef, undef, undef, undef, undef, undef, undef, undef, undef, u 5, u 6, undef, undef, undef, undef, undef, undef, undef, undef, undef, undef, undef, undef, undef, undef], []⟩, rfl, fun d hd => by cases hd; exact (by decide : 63 < 77), ?_⟩
                    have e5 : u 5 = _ := hR 5 (by decide)
                    have e6 : u 6 = _ := hR 6 (by decide)
                    have k0 := keep_cell hI c0
                    have k1 := keep_cell hI c1'
                    have k2 := keep_cell hI c2'
                    have k3 := keep_cell hI d0
                    have k4 := keep_cell hI d1
                    have k5 := keep_cell hI d2
                    have k6 := keep_cell hI x0
                    have k7 := keep_cell hI x1
                    have k8 := keep_cell hI x2
                    have HI := Lib.hid hI
                    clear hI hst hR
                    rw [e5, e6]
                    clear e5 e6
                    go_wp2
                    exact ⟨rfl, _, rfl, rfl, HI.out, fun _ _ h => h⟩
                  · refine Owes.mk _ rfl rfl (fun _ _ h => by cases h) fun u m w' hm hI hR => ⟨⟨#[undef, undef, undef, undef, undef, undef, undef, undef, undef, undef, undef, undef, undef, undef, undef, undef, undef, undef, undef, undef, undef, undef, undef, undef, undef, undef, undef, undef, undef, undef, undef, undef, undef, undef, undef, undef, undef, undef, undef, undef, undef, undef, undef, undef, undef, undef, undef, undef, undef, undef, undef, undef, undef, undef, undef, undef, undef, undef, undef, undef, undef, undef, undef, u 7, undef, undef, undef, undef, undef, undef, undef, undef, undef, undef, undef, undef, undef], []⟩, rfl, fun d hd => by cases hd; exact (by decide : 64 < 77), ?_⟩
                    have e7 : u 7 = _ := hR 7 (by decide)
                    have k0 := keep_cell hI c0
                    have k1 := keep_cell hI c1'
                    have k2 := keep_cell hI c2'
                    have k3 := keep_cell hI d0
                    have k4 := keep_cell hI d1
                    have k5 := keep_cell hI d2
                    have k6 := keep_cell hI x0
                    have k7 := keep_cell hI x1
                    have k8 := keep_cell hI x2
                    have HI := Lib.hid hI
                    clear hI hst hR
                    rw [e7]
                    clear e7
                    go_wp2
                    exact ⟨rfl, _, rfl, rfl, HI.out, fun _ _ h => h⟩
                  · refine Owes.mk _ rfl rfl (fun _ _ h => by cases h) fun u m w' hm hI hR => ⟨⟨#[undef, undef, undef, undef, undef, undef, undef, undef, undef, undef, undef, undef, undef, undef, undef, undef, undef, undef, undef, undef, undef, undef, undef, undef, undef, undef, undef, undef, undef, undef, undef, undef, undef, undef, undef, undef, undef, undef, undef, undef, undef, undef, undef, undef, undef, undef, undef, undef, undef, undef, undef, undef, undef, undef, undef, undef, u 0, undef, undef, undef, u 4, undef, undef, undef, u 8, undef, undef, undef, undef, undef, undef, undef, undef, undef, undef, undef, undef], []⟩, rfl, fun d hd => by cases hd; exact (by decide : 65 < 77), ?_⟩
                    have e0 : u 0 = _ := hR 0 (by decide)
                    have e4 : u 4 = _ := hR 4 (by decide)
                    have e8 : u 8 = _ := hR 8 (by decide)
                    have k0 := keep_cell hI c0
                    have k1 := keep_cell hI c1'
                    have k2 := keep_cell hI c2'
                    have k3 := keep_cell hI d0
                    have k4 := keep_cell hI d1
                    have k5 := keep_cell hI d2
                    have k6 := keep_cell hI x0
                    have k7 := keep_cell hI x1
                    have k8 := keep_cell hI x2
                    rw [e0, e4, e8]
                    clear e0 e4 e8
                    have G2b := Lib.hid (SlR.below (slR_fits reqR_fits) G2a.out hI)
                    have HI := Lib.hid hI
                    clear hI hR
                    go_wp2_with fail
                    refine (sApart_any c a[j] a[k] HPl.out HA1.out HA2.out _ _ _ fp2 _ G2b.out).mono ?_
                    rw [HAp.out]
                    rintro e w5 ⟨rfl, b5⟩
                    have HS5 := Lib.hid (facts_stable hst (b5.chg []))
                    have HI5 := Lib.hid (HI.out.trans (b5.mono HI.out.size))
                    clear b5 hst
                    go_wp2
                    exact ⟨rfl, _, rfl, rfl, HI5.out, HS5.out⟩
                  · refine Owes.mk _ rfl rfl (fun _ _ h => by cases h) fun u m w' hm hI hR => ⟨⟨#[undef, undef, undef, undef, undef, undef, undef, undef, undef, undef, undef, undef, undef, undef, undef, undef, undef, undef, undef, undef, undef, undef, undef, undef, undef, undef, undef, undef, undef, undef, undef, undef, undef, undef, undef, undef, undef, undef, undef, undef, undef, undef, undef, undef, undef, undef, undef, undef, undef, undef, undef, undef, undef, undef, undef, undef, undef, undef, undef, undef, undef, undef, undef, undef, undef, u 9, undef, undef, undef, undef, undef, undef, undef, undef, undef, undef, undef], []⟩, rfl, fun d hd => by cases hd; exact (by decide : 66 < 77), ?_⟩
                    have e9 : u 9 = _ := hR 9 (by decide)
                    have k0 := keep_cell hI c0
                    have k1 := keep_cell hI c1'
                    have k2 := keep_cell hI c2'
                    have k3 := keep_cell hI d0
                    have k4 := keep_cell hI d1
                    have k5 := keep_cell hI d2
                    have k6 := keep_cell hI x0
                    have k7 := keep_cell hI x1
                    have k8 := keep_cell hI x2
                    have HI := Lib.hid hI
                    clear hI hst hR
                    rw [e9]
                    clear e9
                    go_wp2
                    exact ⟨rfl, _, rfl, rfl, HI.out, fun _ _ h => h⟩
                  · refine Owes.mk _ rfl rfl (fun _ _ h => by cases h) fun u m w' hm hI hR => ⟨⟨#[undef, undef, undef, undef, undef, undef, undef, undef, undef, undef, undef, undef, undef, undef, undef, undef, undef, undef, undef, undef, undef, undef, undef, undef, undef, undef, undef, undef, undef, undef, undef, undef, undef, undef, undef, undef, undef, undef, undef, undef, undef, undef, undef, undef, undef, undef, undef, undef, undef, undef, undef, undef, undef, undef, undef, undef, undef, undef, undef, undef, undef, undef, undef, undef, undef, undef, u 10, undef, undef, undef, undef, undef, undef, undef, undef, undef, undef], []⟩, rfl, fun d hd => by cases hd; exact (by decide : 67 < 77), ?_⟩
                    have e10 : u 10 = _ := hR 10 (by decide)
                    have k0 := keep_cell hI c0
                    have k1 := keep_cell hI c1'
                    have k2 := keep_cell hI c2'
                    have k3 := keep_cell hI d0
                    have k4 := keep_cell hI d1
                    have k5 := keep_cell hI d2
                    have k6 := keep_cell hI x0
                    have k7 := keep_cell hI x1
                    have k8 := keep_cell hI x2
                    have HI := Lib.hid hI
                    clear hI hst hR
                    rw [e10]
                    clear e10
                    go_wp2
                    exact ⟨rfl, _, rfl, rfl, HI.out, fun _ _ h => h⟩
                  · refine Owes.mkG _ _ rfl rfl (fun _ _ h => by cases h) fun u m w' hm hI hR => ⟨⟨#[undef, undef, .slice a2 mb c2, undef, undef, undef, undef, undef, undef, undef, undef, undef, undef, undef, undef, undef, undef, undef, undef, undef, undef, undef, undef, undef, undef, undef, undef, undef, undef, undef, undef, undef, undef, undef, undef, undef, undef, undef, undef, undef, undef, undef, undef, undef, undef, undef, undef, undef, undef, undef, undef, undef, undef, undef, undef, undef, undef, undef, undef, undef, undef, undef, undef, undef, undef, undef, undef, undef, undef, undef, undef, undef, undef, undef, undef, undef, undef], []⟩, rfl, fun d hd => by cases hd; exact (by decide : 68 < 77), ?_⟩
                    have k0 := keep_cell hI c0
                    have k1 := keep_cell hI c1'
                    have k2 := keep_cell hI c2'
                    have k3 := keep_cell hI d0
                    have k4 := keep_cell hI d1
                    have k5 := keep_cell hI d2
                    have k6 := keep_cell hI x0
                    have k7 := keep_cell hI x1
                    have k8 := keep_cell hI x2
                    have HI := Lib.hid hI
                    clear hI hst hR
                    go_wp2
                    exact ⟨rfl, _, rfl, rfl, HI.out, fun _ _ h => h⟩
                  · refine Owes.mkG _ _ rfl rfl (fun _ _ h => by cases h) fun u m w' hm hI hR => ⟨⟨#[undef, .slice (some ⟨b1, o1, none⟩) n c1, undef, undef, undef, undef, undef, undef, undef, undef, undef, undef, undef, undef, undef, undef, undef, undef, undef, undef, undef, undef, undef, undef, undef, undef, undef, undef, undef, undef, undef, undef, undef, undef, undef, undef, undef, undef, undef, undef, undef, undef, undef, undef, undef, undef, undef, undef, undef, undef, undef, undef, undef, undef, undef, undef, undef, undef, undef, undef, undef, undef, undef, undef, undef, undef, undef, undef, undef, undef, undef, undef, undef, undef, undef, undef, undef], []⟩, rfl, fun d hd => by cases hd; exact (by decide : 69 < 77), ?_⟩
                    have k0 := keep_cell hI c0
                    have k1 := keep_cell hI c1'
                    have k2 := keep_cell hI c2'
                    have k3 := keep_cell hI d0
                    have k4 := keep_cell hI d1
                    have k5 := keep_cell hI d2
                    have k6 := keep_cell hI x0
                    have k7 := keep_cell hI x1
                    have k8 := keep_cell hI x2
                    have HI := Lib.hid hI
                    clear hI hst hR
                    go_wp2
                    exact ⟨rfl, _, rfl, rfl, HI.out, fun _ _ h => h⟩
                  · refine Owes.mkG _ _ rfl rfl (fun _ _ h => by cases h) fun u m w' hm hI hR => ⟨⟨#[undef, undef, undef, undef, undef, undef, undef, undef, undef, .int .i64 (j : Int), undef, undef, undef, undef, undef, undef, undef, undef, undef, undef, undef, undef, undef, undef, undef, undef, undef, undef, undef, undef, undef, undef, undef, undef, undef, undef, undef, undef, undef, undef, undef, undef, undef, undef, undef, undef, undef, undef, undef, undef, undef, undef, undef, undef, undef, undef, undef, undef, undef, undef, undef, undef, undef, undef, undef, undef, undef, undef, undef, undef, undef, undef, undef, undef, undef, undef, undef], []⟩, rfl, fun d hd => by cases hd; exact (by decide : 70 < 77), ?_⟩
                    have k0 := keep_cell hI c0
                    have k1 := keep_cell hI c1'
                    have k2 := keep_cell hI c2'
                    have k3 := keep_cell hI d0
                    have k4 := keep_cell hI d1
                    have k5 := keep_cell hI d2
                    have k6 := keep_cell hI x0
                    have k7 := keep_cell hI x1
                    have k8 := keep_cell hI x2
                    have HI := Lib.hid hI
                    clear hI hst hR
                    go_wp2
                    exact ⟨rfl, _, rfl, rfl, HI.out, fun _ _ h => h⟩
                  · refine Owes.mkG _ _ rfl rfl (fun _ _ h => by cases h) fun u m w' hm hI hR => ⟨⟨#[undef, undef, undef, undef, undef, undef, undef, undef, undef, undef, undef, undef, undef, undef, undef, undef, undef, undef, undef, undef, undef, undef, undef, undef, undef, undef, undef, undef, undef, undef, undef, undef, undef, undef, undef, undef, undef, undef, undef, undef, undef, undef, undef, undef, undef, undef, undef, undef, undef, undef, undef, undef, undef, undef, undef, undef, undef, undef, undef, undef, undef, undef, undef, undef, undef, undef, undef, undef, undef, u 13, u 14, undef, undef, undef, undef, undef, undef], []⟩, rfl, fun d hd => by cases hd; exact (by decide : 71 < 77), ?_⟩
                    have e13 : u 13 = _ := hR 13 (by decide)
                    have e14 : u 14 = _ := hR 14 (by decide)
                    have k0 := keep_cell hI c0
                    have k1 := keep_cell hI c1'
                    have k2 := keep_cell hI c2'
                    have k3 := keep_cell hI d0
                    have k4 := keep_cell hI d1
                    have k5 := keep_cell hI d2
                    have k6 := keep_cell hI x0
                    have k7 := keep_cell hI x1
                    have k8 := keep_cell hI x2
                    have HI := Lib.hid hI
                    clear hI hst hR
                    rw [e13, e14]
                    clear e13 e14
                    go_wp2
                    exact ⟨rfl, _, rfl, rfl, HI.out, fun _ _ h => h⟩
                  · refine Owes.mkG _ _ rfl rfl (fun _ _ h => by cases h) fun u m w' hm hI hR => ⟨⟨#[undef, undef, undef, undef, undef, undef, undef, undef, undef, undef, undef, undef, undef, undef, undef, undef, undef, undef, undef, undef, undef, undef, undef, undef, undef, undef, undef, undef, undef, undef, undef, undef, undef, undef, undef, undef, undef, undef, undef, undef, undef, undef, undef, undef, undef, undef, undef, undef, undef, undef, undef, undef, undef, undef, undef, undef, undef, undef, undef, undef, undef, undef, undef, undef, undef, undef, undef, undef, undef, undef, undef, u 15, undef, undef, undef, undef, undef], []⟩, rfl, fun d hd => by cases hd; exact (by decide : 72 < 77), ?_⟩
                    have e15 : u 15 = _ := hR 15 (by decide)
                    have k0 := keep_cell hI c0
                    have k1 := keep_cell hI c1'
                    have k2 := keep_cell hI c2'
                    have k3 := keep_cell hI d0
                    have k4 := keep_cell hI d1
                    have k5 := keep_cell hI d2
                    have k6 := keep_cell hI x0
                    have k7 := keep_cell hI x1
                    have k8 := keep_cell hI x2
                    have HI := Lib.hid hI
                    clear hI hst hR
                    rw [e15]
                    clear e15
                    go_wp2
                    exact ⟨rfl, _, rfl, rfl, HI.out, fun _ _ h => h⟩
                  · refine Owes.mkG _ _ rfl rfl (fun _ _ h => by cases h) fun u m w' hm hI hR => ⟨⟨#[undef, undef, undef, undef, undef, undef, undef, undef, undef, undef, undef, undef, undef, undef, undef, undef, undef, undef, undef, undef, undef, undef, undef, undef, undef, undef, undef, undef, undef, undef, undef, undef, undef, undef, undef, undef, undef, undef, undef, undef, undef, undef, undef, undef, undef, undef, undef, undef, undef, undef, undef, undef, undef, undef, undef, undef, undef, undef, undef, undef, undef, undef, undef, undef, undef, undef, undef, undef, u 12, undef, undef, undef, u 16, undef, undef, undef, undef], []⟩, rfl, fun d hd => by cases hd; exact (by decide : 73 < 77), ?_⟩
                    have e12 : u 12 = _ := hR 12 (by decide)
                    have e16 : u 16 = _ := hR 16 (by decide)
                    have k0 := keep_cell hI c0
                    have k1 := keep_cell hI c1'
                    have k2 := keep_cell hI c2'
                    have k3 := keep_cell hI d0
                    have k4 := keep_cell hI d1
                    have k5 := keep_cell hI d2
                    have k6 := keep_cell hI x0
                    have k7 := keep_cell hI x1
                    have k8 := keep_cell hI x2
                    rw [e12, e16]
                    clear e12 e16
                    have GB3 := Lib.hid (SlR.below evR_fits GB2.out hI)
                    have HI := Lib.hid hI
                    clear hI hR
                    go_wp2_with fail
                    refine (l9At_any _ b fb a[j] _ GB3.out).mono ?_
                    rw [HY.out]
                    rintro e w6 ⟨rfl, b6⟩
                    have HS6 := Lib.hid (facts_stable hst (b6.chg []))
                    have HI6 := Lib.hid (HI.out.trans (b6.mono HI.out.size))
                    clear b6 hst
                    go_wp2
                    exact ⟨rfl, _, rfl, rfl, HI6.out, HS6.out⟩
                  · refine Owes.mkG _ _ rfl rfl (fun _ _ h => by cases h) fun u m w' hm hI hR => ⟨⟨#[undef, undef, undef, undef, undef, undef, undef, undef, .int .i64 z, undef, undef, undef, undef, undef, undef, undef, undef, undef, undef, undef, undef, undef, undef, undef, undef, undef, undef, undef, undef, undef, undef, undef, undef, undef, undef, undef, undef, undef, undef, undef, undef, undef, undef, undef, undef, undef, undef, undef, undef, undef, undef, undef, undef, undef, undef, undef, undef, undef, undef, undef, undef, undef, undef, undef, undef, undef, undef, undef, undef, undef, undef, undef, undef, undef, undef, undef, undef], []⟩, rfl, fun d hd => by cases hd; exact (by decide : 74 < 77), ?_⟩
                    have k0 := keep_cell hI c0
                    have k1 := keep_cell hI c1'
                    have k2 := keep_cell hI c2'
                    have k3 := keep_cell hI d0
                    have k4 := keep_cell hI d1
                    have k5 := keep_cell hI d2
                    have k6 := keep_cell hI x0
                    have k7 := keep_cell hI x1
                    have k8 := keep_cell hI x2
                    have HI := Lib.hid hI
                    clear hI hst hR
                    go_wp2
                    exact ⟨rfl, _, rfl, rfl, HI.out, fun _ _ h => h⟩
                case hend =>
                  intro u w' hI hR
                  simp only [setAll, List.set_cons_zero, List.set_cons_succ]
                  have e11 : u 11 = _ := hR 11 (by decide)
                  have e17 : u 17 = _ := hR 17 (by decide)
                  have e18 : u 18 = _ := hR 18 (by decide)
                  rw [e11, e17, e18]
                  have HB5 := Lib.hid (HB.out.trans (hI.mono HB.out.size))
                  clear hR hst hI e11 e17 e18 c0 c1' c2' d0 d1 d2 x0 x1 x2
                  by_cases hyz : z < y
                  · have hyz' : decide (z < y) = true := decide_eq_true hyz
                    go_wp2
                    go_ret
                    exact ⟨ret_bool (by rw [HS.out]; exact (order_no2 i1 i2 hjk HAp.out (by rw [HZ.out, HY.out]; exact hyz)).symm), B.out.trans (HB5.out.mono B.out.size)⟩
                  · have hyz' : decide (z < y) = false := decide_eq_false hyz
                    go_wp2
                    go_roundw
                    case rel => exact ⟨j + 1, by omega, by go_num, fun t h ht => (by
                      by_cases e : t = j
                      · subst e; right; rw [HY.out]; omega
                      · exact HQ.out t h (by omega)), HB5.out⟩
                    case measure => simp [intOf]; omega
              · go_wp2_with fail
                have hst : ∀ F, F ∈ [FEq (.agg #[v0, v1, v2]), FEq (.slice (some ⟨b1, o1, none⟩) n c1), FEq (.int .i64 (j : Int)), FEq (.pointer (some ⟨b1, o1 + j * 3, none⟩)), FEq (.agg #[.int .i64 a[j].kind, .int .i64 a[j].who, .int .i64 a[j].n]), FEq (.slice (some ⟨b1, o1, none⟩) n c1), FEq (.int .i64 (k : Int)), FEq (.pointer (some ⟨b1, o1 + k * 3, none⟩)), FEq (.agg #[.int .i64 a[k].kind, .int .i64 a[k].who, .int .i64 a[k].n]), FEq (.bool true), FEq (.bool false), FEq (.bool false), FEq undef, FEq undef, FEq undef, FEq undef, FEq undef, FEq undef, FEq undef] → Stable [] F := by
                  simp only [List.forall_mem_cons]
                  exact ⟨stEq _ _, stEq _ _, stEq _ _, stEq _ _, stEq _ _, stEq _ _, stEq _ _, stEq _ _, stEq _ _, stEq _ _, stEq _ _, stEq _ _, stEq _ _, stEq _ _, stEq _ _, stEq _ _, stEq _ _, stEq _ _, stEq _ _, fun _ h => by simp at h⟩
                refine wp_region_skip (by kernel_rfl) (fun i => ([[], [], [], [1, 2], [1, 2, 3], [], [], [5, 6], [5, 6, 7], [0, 1, 2, 3, 4, 5, 6, 7, 8], [0, 1, 2, 3, 4, 5, 6, 7, 8, 9], [0, 1, 2, 3, 4, 5, 6, 7, 8, 9, 10], [0, 1, 2, 3, 4, 5, 6, 7, 8, 9, 10, 11], [0, 1, 2, 3, 4, 5, 6, 7, 8, 9, 10, 11], [0, 1, 2, 3, 4, 5, 6, 7, 8, 9, 10, 11], [0, 1, 2, 3, 4, 5, 6, 7, 8, 9, 10, 11, 13, 14], [0, 1, 2, 3, 4, 5, 6, 7, 8, 9, 10, 11, 13, 14, 15], [0, 1, 2, 3, 4, 5, 6, 7, 8, 9, 10, 11, 12, 13, 14, 15, 16], [0, 1, 2, 3, 4, 5, 6, 7, 8, 9, 10, 11], [0, 1, 2, 3, 4, 5, 6, 7, 8, 9, 10, 11, 12, 13, 14, 15, 16, 17, 18], [0, 1, 2, 3, 4, 5, 6, 7, 8, 9, 10, 11, 12, 13, 14, 15, 16, 17, 18, 19]] : List (List Nat)).getD i []) (facts [FEq (.agg #[v0, v1, v2]), FEq (.slice (some ⟨b1, o1, none⟩) n c1), FEq (.int .i64 (j : Int)), FEq (.pointer (some ⟨b1, o1 + j * 3, none⟩)), FEq (.agg #[.int .i64 a[j].kind, .int .i64 a[j].who, .int .i64 a[j].n]), FEq (.slice (some ⟨b1, o1, none⟩) n c1), FEq (.int .i64 (k : Int)), FEq (.pointer (some ⟨b1, o1 + k * 3, none⟩)), FEq (.agg #[.int .i64 a[k].kind, .int .i64 a[k].who, .int .i64 a[k].n]), FEq (.bool true), FEq (.bool false), FEq (.bool false), FEq undef, FEq undef, FEq undef, FEq undef, FEq undef, FEq undef, FEq undef]) (fun m w' => Below wr.heap.size wr w') 77 21 19 [some 56, some 57, some 58, some 59, some 60, some 61, some 62, some 63, some 64, some 65, some 66, some 67, some 68, some 69, some 70, some 71, some 72, some 73, some 74] _ rfl rfl (by decide) rfl rfl (by kernel_rfl) (by kernel_rfl) [12, 13, 14, 15, 16, 17, 18] [(11, false)] (by kernel_rfl) (fun g b hm v w h => by simp only [List.mem_cons, List.not_mem_nil, or_false, Prod.mk.injEq] at hm; obtain ⟨rfl, rfl⟩ := hm; exact h) (fun i hi w => by simp only [List.mem_cons, List.not_mem_nil, or_false] at hi; rcases hi with rfl | rfl | rfl | rfl | rfl | rfl | rfl <;> rfl) (fun _ _ h => h) ?h0 (all_lt (n := 19) ?hop) ?hend
                case h0 => exact (Below.refl _ _).drew
                case hop =>
                  refine ⟨⟨⟨⟨⟨⟨⟨⟨⟨⟨⟨⟨⟨⟨⟨⟨⟨⟨⟨trivial, ?_⟩, ?_⟩, ?_⟩, ?_⟩, ?_⟩, ?_⟩, ?_⟩, ?_⟩, ?_⟩, ?_⟩, ?_⟩, ?_⟩, ?_⟩, ?_⟩, ?_⟩, ?_⟩, ?_⟩, ?_⟩, ?_⟩
                  · refine .inr (Owes.mk _ rfl rfl (fun _ _ h => by cases h) fun u m w' hm hI hR => ⟨⟨#[undef, undef, undef, .pointer (some ⟨w.heap.size, 0, none⟩), undef, undef, undef, undef, undef, undef, undef, undef, undef, undef, undef, undef, undef, undef, undef, undef, undef, undef, undef, undef, undef, undef, undef, undef, undef, undef, undef, undef, undef, undef, undef, undef, undef, undef, undef, undef, undef, undef, undef, undef, undef, undef, undef, undef, undef, undef, undef, undef, undef, undef, undef, undef, undef, undef, undef, undef, undef, undef, undef, undef, undef, undef, undef, undef, undef, undef, undef, undef, undef, undef, undef, undef, undef], []⟩, rfl, fun d hd => by cases hd; exact (by decide : 56 < 77), ?_⟩)
                    have k0 := keep_cell hI c0
                    have k1 := keep_cell hI c1'
                    have k2 := keep_cell hI c2'
                    have k3 := keep_cell hI d0
                    have k4 := keep_cell hI d1
                    have k5 := keep_cell hI d2
                    have k6 := keep_cell hI x0
                    have k7 := keep_cell hI x1
                    have k8 := keep_cell hI x2
                    have HI := Lib.hid hI
                    clear hI hst hR
                    go_wp2
                    exact ⟨rfl, _, rfl, rfl, HI.out, fun _ _ h => h⟩
                  · refine .inr (Owes.mk _ rfl rfl (fun _ _ h => by cases h) fun u m w' hm hI hR => ⟨⟨#[undef, .slice (some ⟨b1, o1, none⟩) n c1, undef, undef, undef, undef, undef, undef, undef, undef, undef, undef, undef, undef, undef, undef, undef, undef, undef, undef, undef, undef, undef, undef, undef, undef, undef, undef, undef, undef, undef, undef, undef, undef, undef, undef, undef, undef, undef, undef, undef, undef, undef, undef, undef, undef, undef, undef, undef, undef, undef, undef, undef, undef, undef, undef, undef, undef, undef, undef, undef, undef, undef, undef, undef, undef, undef, undef, undef, undef, undef, undef, undef, undef, undef, undef, undef], []⟩, rfl, fun d hd => by cases hd; exact (by decide : 57 < 77), ?_⟩)
                    have k0 := keep_cell hI c0
                    have k1 := keep_cell hI c1'
                    have k2 := keep_cell hI c2'
                    have k3 := keep_cell hI d0
                    have k4 := keep_cell hI d1
                    have k5 := keep_cell hI d2
                    have k6 := keep_cell hI x0
                    have k7 := keep_cell hI x1
                    have k8 := keep_cell hI x2
                    have HI := Lib.hid hI
                    clear hI hst hR
                    go_wp2
                    exact ⟨rfl, _, rfl, rfl, HI.out, fun _ _ h => h⟩
                  · refine .inr (Owes.mk _ rfl rfl (fun _ _ h => by cases h) fun u m w' hm hI hR => ⟨⟨#[undef, undef, undef, undef, undef, undef, undef, undef, undef, .int .i64 (j : Int), undef, undef, undef, undef, undef, undef, undef, undef, undef, undef, undef, undef, undef, undef, undef, undef, undef, undef, undef, undef, undef, undef, undef, undef, undef, undef, undef, undef, undef, undef, undef, undef, undef, undef, undef, undef, undef, undef, undef, undef, undef, undef, undef, undef, undef, undef, undef, undef, undef, undef, undef, undef, undef, undef, undef, undef, undef, undef, undef, undef, undef, undef, undef, undef, undef, undef, undef], []⟩, rfl, fun d hd => by cases hd; exact (by decide : 58 < 77), ?_⟩)
                    have k0 := keep_cell hI c0
                    have k1 := keep_cell hI c1'
                    have k2 := keep_cell hI c2'
                    have k3 := keep_cell hI d0
                    have k4 := keep_cell hI d1
                    have k5 := keep_cell hI d2
                    have k6 := keep_cell hI x0
                    have k7 := keep_cell hI x1
                    have k8 := keep_cell hI x2
                    have HI := Lib.hid hI
                    clear hI hst hR
                    go_wp2
                    exact ⟨rfl, _, rfl, rfl, HI.out, fun _ _ h => h⟩
                  · refine .inr (Owes.mk _ rfl rfl (fun _ _ h => by cases h) fun u m w' hm hI hR => ⟨⟨#[undef, undef, undef, undef, undef, undef, undef, undef, undef, undef, undef, undef, undef, undef, undef, undef, undef, undef, undef, undef, undef, undef, undef, undef, undef, undef, undef, undef, undef, undef, undef, undef, undef, undef, undef, undef, undef, undef, undef, undef, undef, undef, undef, undef, undef, undef, undef, undef, undef, undef, undef, undef, undef, undef, undef, undef, undef, u 1, u 2, undef, undef, undef, undef, undef, undef, undef, undef, undef, undef, undef, undef, undef, undef, undef, undef, undef, undef], []⟩, rfl, fun d hd => by cases hd; exact (by decide : 59 < 77), ?_⟩)
                    have e1 : u 1 = _ := hR 1 (by decide)
                    have e2 : u 2 = _ := hR 2 (by decide)
                    have k0 := keep_cell hI c0
                    have k1 := keep_cell hI c1'
                    have k2 := keep_cell hI c2'
                    have k3 := keep_cell hI d0
                    have k4 := keep_cell hI d1
                    have k5 := keep_cell hI d2
                    have k6 := keep_cell hI x0
                    have k7 := keep_cell hI x1
                    have k8 := keep_cell hI x2
                    have HI := Lib.hid hI
                    clear hI hst hR
                    rw [e1, e2]
                    clear e1 e2
                    go_wp2
                    exact ⟨rfl, _, rfl, rfl, HI.out, fun _ _ h => h⟩
                  · refine .inr (Owes.mk _ rfl rfl (fun _ _ h => by cases h) fun u m w' hm hI hR => ⟨⟨#[undef, undef, undef, undef, undef, undef, undef, undef, undef, undef, undef, undef, undef, undef, undef, undef, undef, undef, undef, undef, undef, undef, undef, undef, undef, undef, undef, undef, undef, undef, undef, undef, undef, undef, undef, undef, undef, undef, undef, undef, undef, undef, undef, undef, undef, undef, undef, undef, undef, undef, undef, undef, undef, undef, undef, undef, undef, undef, undef, u 3, undef, undef, undef, undef, undef, undef, undef, undef, undef, undef, undef, undef, undef, undef, undef, undef, undef], []⟩, rfl, fun d hd => by cases hd; exact (by decide : 60 < 77), ?_⟩)
                    have e3 : u 3 = _ := hR 3 (by decide)
                    have k0 := keep_cell hI c0
                    have k1 := keep_cell hI c1'
                    have k2 := keep_cell hI c2'
                    have k3 := keep_cell hI d0
                    have k4 := keep_cell hI d1
                    have k5 := keep_cell hI d2
                    have k6 := keep_cell hI x0
                    have k7 := keep_cell hI x1
                    have k8 := keep_cell hI x2
                    have HI := Lib.hid hI
                    clear hI hst hR
                    rw [e3]
                    clear e3
                    go_wp2
                    exact ⟨rfl, _, rfl, rfl, HI.out, fun _ _ h => h⟩
                  · refine .inr (Owes.mk _ rfl rfl (fun _ _ h => by cases h) fun u m w' hm hI hR => ⟨⟨#[undef, .slice (some ⟨b1, o1, none⟩) n c1, undef, undef, undef, undef, undef, undef, undef, undef, undef, undef, undef, undef, undef, undef, undef, undef, undef, undef, undef, undef, undef, undef, undef, undef, undef, undef, undef, undef, undef, undef, undef, undef, undef, undef, undef, undef, undef, undef, undef, undef, undef, undef, undef, undef, undef, undef, undef, undef, undef, undef, undef, undef, undef, undef, undef, undef, undef, undef, undef, undef, undef, undef, undef, undef, undef, undef, undef, undef, undef, undef, undef, undef, undef, undef, undef], []⟩, rfl, fun d hd => by cases hd; exact (by decide : 61 < 77), ?_⟩)
                    have k0 := keep_cell hI c0
                    have k1 := keep_cell hI c1'
                    have k2 := keep_cell hI c2'
                    have k3 := keep_cell hI d0
                    have k4 := keep_cell hI d1
                    have k5 := keep_cell hI d2
                    have k6 := keep_cell hI x0
                    have k7 := keep_cell hI x1
                    have k8 := keep_cell hI x2
                    have HI := Lib.hid hI
                    clear hI hst hR
                    go_wp2
                    exact ⟨rfl, _, rfl, rfl, HI.out, fun _ _ h => h⟩
                  · refine .inr (Owes.mk _ rfl rfl (fun _ _ h => by cases h) fun u m w' hm hI hR => ⟨⟨#[undef, undef, undef, undef, undef, undef, undef, .int .i64 (k : Int), undef, undef, undef, undef, undef, undef, undef, undef, undef, undef, undef, undef, undef, undef, undef, undef, undef, undef, undef, undef, undef, undef, undef, undef, undef, undef, undef, undef, undef, undef, undef, undef, undef, undef, undef, undef, undef, undef, undef, undef, undef, undef, undef, undef, undef, undef, undef, undef, undef, undef, undef, undef, undef, undef, undef, undef, undef, undef, undef, undef, undef, undef, undef, undef, undef, undef, undef, undef, undef], []⟩, rfl, fun d hd => by cases hd; exact (by decide : 62 < 77), ?_⟩)
                    have k0 := keep_cell hI c0
                    have k1 := keep_cell hI c1'
                    have k2 := keep_cell hI c2'
                    have k3 := keep_cell hI d0
                    have k4 := keep_cell hI d1
                    have k5 := keep_cell hI d2
                    have k6 := keep_cell hI x0
                    have k7 := keep_cell hI x1
                    have k8 := keep_cell hI x2
                    have HI := Lib.hid hI
                    clear hI hst hR
                    go_wp2
                    exact ⟨rfl, _, rfl, rfl, HI.out, fun _ _ h => h⟩
                  · refine .inr (Owes.mk _ rfl rfl (fun _ _ h => by cases h) fun u m w' hm hI hR => ⟨⟨#[undef, undef, undef, undef, undef, undef, undef, undef, undef, undef, undef, undef, undef, undef, undef, undef, undef, undef, undef, undef, undef, undef, undef, undef, undef, undef, undef, undef, undef, undef, undef, undef, undef, undef, undef, undef, undef, undef, undef, undef, undef, undef, undef, undef, undef, undef, undef, undef, undef, undef, undef, undef, undef, undef, undef, undef, undef, undef, undef, undef, undef, u 5, u 6, undef, undef, undef, undef, undef, undef, undef, undef, undef, undef, undef, undef, undef, undef], []⟩, rfl, fun d hd => by cases hd; exact (by decide : 63 < 77), ?_⟩)
                    have e5 : u 5 = _ := hR 5 (by decide)
                    have e6 : u 6 = _ := hR 6 (by decide)
                    have k0 := keep_cell hI c0
                    have k1 := keep_cell hI c1'
                    have k2 := keep_cell hI c2'
                    have k3 := keep_cell hI d0
                    have k4 := keep_cell hI d1
                    have k5 := keep_cell hI d2
                    have k6 := keep_cell hI x0
                    have k7 := keep_cell hI x1
                    have k8 := keep_cell hI x2
                    have HI := Lib.hid hI
                    clear hI hst hR
                    rw [e5, e6]
                    clear e5 e6
                    go_wp2
                    exact ⟨rfl, _, rfl, rfl, HI.out, fun _ _ h => h⟩
                  · refine .inr (Owes.mk _ rfl rfl (fun _ _ h => by cases h) fun u m w' hm hI hR => ⟨⟨#[undef, undef, undef, undef, undef, undef, undef, undef, undef, undef, undef, undef, undef, undef, undef, undef, undef, undef, undef, undef, undef, undef, undef, undef, undef, undef, undef, undef, undef, undef, undef, undef, undef, undef, undef, undef, undef, undef, undef, undef, undef, undef, undef, undef, undef, undef, undef, undef, undef, undef, undef, undef, undef, undef, undef, undef, undef, undef, undef, undef, undef, undef, undef, u 7, undef, undef, undef, undef, undef, undef, undef, undef, undef, undef, undef, undef, undef], []⟩, rfl, fun d hd => by cases hd; exact (by decide : 64 < 77), ?_⟩)
                    have e7 : u 7 = _ := hR 7 (by decide)
                    have k0 := keep_cell hI c0
                    have k1 := keep_cell hI c1'
                    have k2 := keep_cell hI c2'
                    have k3 := keep_cell hI d0
                    have k4 := keep_cell hI d1
                    have k5 := keep_cell hI d2
                    have k6 := keep_cell hI x0
                    have k7 := keep_cell hI x1
                    have k8 := keep_cell hI x2
                    have HI := Lib.hid hI
                    clear hI hst hR
                    rw [e7]
                    clear e7
                    go_wp2
                    exact ⟨rfl, _, rfl, rfl, HI.out, fun _ _ h => h⟩
                  · refine .inr (Owes.mk _ rfl rfl (fun _ _ h => by cases h) fun u m w' hm hI hR => ⟨⟨#[undef, undef, undef, undef, undef, undef, undef, undef, undef, undef, undef, undef, undef, undef, undef, undef, undef, undef, undef, undef, undef, undef, undef, undef, undef, undef, undef, undef, undef, undef, undef, undef, undef, undef, undef, undef, undef, undef, undef, undef, undef, undef, undef, undef, undef, undef, undef, undef, undef, undef, undef, undef, undef, undef, undef, undef, u 0, undef, undef, undef, u 4, undef, undef, undef, u 8, undef, undef, undef, undef, undef, undef, undef, undef, undef, undef, undef, undef], []⟩, rfl, fun d hd => by cases hd; exact (by decide : 65 < 77), ?_⟩)
                    have e0 : u 0 = _ := hR 0 (by decide)
                    have e4 : u 4 = _ := hR 4 (by decide)
                    have e8 : u 8 = _ := hR 8 (by decide)
                    have k0 := keep_cell hI c0
                    have k1 := keep_cell hI c1'
                    have k2 := keep_cell hI c2'
                    have k3 := keep_cell hI d0
                    have k4 := keep_cell hI d1
                    have k5 := keep_cell hI d2
                    have k6 := keep_cell hI x0
                    have k7 := keep_cell hI x1
                    have k8 := keep_cell hI x2
                    rw [e0, e4, e8]
                    clear e0 e4 e8
                    have G2b := Lib.hid (SlR.below (slR_fits reqR_fits) G2a.out hI)
                    have HI := Lib.hid hI
                    clear hI hR
                    go_wp2_with fail
                    refine (sApart_any c a[j] a[k] HPl.out HA1.out HA2.out _ _ _ fp2 _ G2b.out).mono ?_
                    rw [HAp.out]
                    rintro e w5 ⟨rfl, b5⟩
                    have HS5 := Lib.hid (facts_stable hst (b5.chg []))
                    have HI5 := Lib.hid (HI.out.trans (b5.mono HI.out.size))
                    clear b5 hst
                    go_wp2
                    exact ⟨rfl, _, rfl, rfl, HI5.out, HS5.out⟩
                  · refine .inr (Owes.mk _ rfl rfl (fun _ _ h => by cases h) fun u m w' hm hI hR => ⟨⟨#[undef, undef, undef, undef, undef, undef, undef, undef, undef, undef, undef, undef, undef, undef, undef, undef, undef, undef, undef, undef, undef, undef, undef, undef, undef, undef, undef, undef, undef, undef, undef, undef, undef, undef, undef, undef, undef, undef, undef, undef, undef, undef, undef, undef, undef, undef, undef, undef, undef, undef, undef, undef, undef, undef, undef, undef, undef, undef, undef, undef, undef, undef, undef, undef, undef, u 9, undef, undef, undef, undef, undef, undef, undef, undef, undef, undef, undef], []⟩, rfl, fun d hd => by cases hd; exact (by decide : 66 < 77), ?_⟩)
                    have e9 : u 9 = _ := hR 9 (by decide)
                    have k0 := keep_cell hI c0
                    have k1 := keep_cell hI c1'
                    have k2 := keep_cell hI c2'
                    have k3 := keep_cell hI d0
                    have k4 := keep_cell hI d1
                    have k5 := keep_cell hI d2
                    have k6 := keep_cell hI x0
                    have k7 := keep_cell hI x1
                    have k8 := keep_cell hI x2
                    have HI := Lib.hid hI
                    clear hI hst hR
                    rw [e9]
                    clear e9
                    go_wp2
                    exact ⟨rfl, _, rfl, rfl, HI.out, fun _ _ h => h⟩
                  · refine .inr (Owes.mk _ rfl rfl (fun _ _ h => by cases h) fun u m w' hm hI hR => ⟨⟨#[undef, undef, undef, undef, undef, undef, undef, undef, undef, undef, undef, undef, undef, undef, undef, undef, undef, undef, undef, undef, undef, undef, undef, undef, undef, undef, undef, undef, undef, undef, undef, undef, undef, undef, undef, undef, undef, undef, undef, undef, undef, undef, undef, undef, undef, undef, undef, undef, undef, undef, undef, undef, undef, undef, undef, undef, undef, undef, undef, undef, undef, undef, undef, undef, undef, undef, u 10, undef, undef, undef, undef, undef, undef, undef, undef, undef, undef], []⟩, rfl, fun d hd => by cases hd; exact (by decide : 67 < 77), ?_⟩)
                    have e10 : u 10 = _ := hR 10 (by decide)
                    have k0 := keep_cell hI c0
                    have k1 := keep_cell hI c1'
                    have k2 := keep_cell hI c2'
                    have k3 := keep_cell hI d0
                    have k4 := keep_cell hI d1
                    have k5 := keep_cell hI d2
                    have k6 := keep_cell hI x0
                    have k7 := keep_cell hI x1
                    have k8 := keep_cell hI x2
                    have HI := Lib.hid hI
                    clear hI hst hR
                    rw [e10]
                    clear e10
                    go_wp2
                    exact ⟨rfl, _, rfl, rfl, HI.out, fun _ _ h => h⟩
                  · exact .inl (by decide)
                  · exact .inl (by decide)
                  · exact .inl (by decide)
                  · exact .inl (by decide)
                  · exact .inl (by decide)
                  · exact .inl (by decide)
                  · exact .inl (by decide)
                case hend =>
                  intro u w' hI hR
                  simp only [setAll, List.set_cons_zero, List.set_cons_succ]
                  have e11 : u 11 = _ := hR 11 (by decide)
                  rw [e11]
                  have HB5 := Lib.hid (HB.out.trans (hI.mono HB.out.size))
                  clear hR hst hI e11 c0 c1' c2' d0 d1 d2 x0 x1 x2
                  go_wp2
                  go_roundw
                  case rel => exact ⟨j + 1, by omega, by go_num, fun t h ht => (by
                    by_cases e : t = j
                    · subst e; left; exact HAp.out
                    · exact HQ.out t h (by omega)), HB5.out⟩
                  case measure => simp [intOf]; omega
            · clear r hbel
              go_wp2
              go_roundw
              case rel => exact ⟨k + 1, by omega, by go_num, fun t h ht => (by
                by_cases e : t = k
                · subst e
                  rw [HZ.out]
                  exact ⟨by omega, fun j' h' hj' => HQ.out j' h' (by omega)⟩
                · exact HP.out t h (by omega)), HB.out⟩
              case measure => simp [intOf]; omega
      · clear r hbel
        go_wp2
        go_ret
        exact ⟨ret_bool (by rw [HS.out]; unfold orderB; exact (decide_eq_true fun t h => HP.out t h (by rw [hn.out] at h; omega)).symm), B.out.trans (HB.out.mono B.out.size)⟩

end Go.Proofs.Ytmmojgopeaelcaa
