/-
  Whether two lists of what happens are the same but for the order of what is apart: the program's TrcSame.
-/
import Derived.Test.YtmmojgopeaelcaaSame4
namespace Go.Proofs.Ytmmojgopeaelcaa
set_option linter.unusedVariables false
set_option linter.unusedSimpArgs false
open Go.RowKit Go.ChangeShapes

theorem indexLate (cb eb ab kb bm mb : Nat) (bc : Bus) (f : Ev → Option Int) (ev : Ev) (z : Int) (hbus : busOk bc = true) (he : evOk bc ev = true) (v0 v1 v2 : Value) (fp2 : List Nat) (v : Value) (l : List Ev) (fp : List Nat) (w : World) (hev : ∀ k (h : k < l.length), evOk bc l[k] = true) (x0 : w.cell? ⟨cb, 0, none⟩ = some v0) (x1 : w.cell? ⟨cb, 1, none⟩ = some v1) (x2 : w.cell? ⟨cb, 2, none⟩ = some v2) (g2 : SlR 1 (slR 7 reqR) w bc.progs v2 fp2) (y0 : w.cell? ⟨eb, 0, none⟩ = some (.int .i64 ev.kind)) (y1 : w.cell? ⟨eb, 1, none⟩ = some (.int .i64 ev.who)) (y2 : w.cell? ⟨eb, 2, none⟩ = some (.int .i64 ev.n)) (ha : w.cell? ⟨ab, 0, none⟩ = some (.map (some bm))) (hm : IntM Try.prog 39 3 evV bm mb w f) (hkc : w.cell? ⟨kb, 0, none⟩ = some (.int .i64 z)) (g : SlR 3 evR w l v fp) :
    Calls Try.prog 155 #[v, .func (.func 99) #[] #[.pointer (some ⟨cb, 0, none⟩), .pointer (some ⟨eb, 0, none⟩), .pointer (some ⟨ab, 0, none⟩), .pointer (some ⟨kb, 0, none⟩)]] w fun e w' => e = .returned (.int .i64 (idxOf (lateB bc f ev z) l)) ∧ Below w.heap.size w w' := by
  obtain ⟨a, n, c, rfl, hn, hcap, hmax, hcm, r⟩ := g.opened
  have G := Lib.hid g
  clear g
  go_enter Try.func155, Try.ntmps155
  go_wp2_with fail
  go_loopw [8] (fun i wr => ∃ k : Nat, k ≤ n ∧ i = .int .i64 k ∧ (∀ j (h : j < l.length), j < k → (lateB bc f ev z) l[j] = false) ∧ Below w.heap.size w wr) (fun i _ => n - (intOf i).toNat)
  case atStart => exact ⟨0, Nat.zero_le _, rfl, fun j _ h => absurd h (Nat.not_lt_zero j), Below.refl _ _⟩
  case round =>
    obtain ⟨k, hk, rfl, hp, hb⟩ := hrel
    have HP := Lib.hid hp
    have HB := Lib.hid hb
    clear hp
    by_cases hlt : k < n
    · obtain ⟨i1, b1, o1, f1, cs, rfl, hb1, hbf, hff, hR, e1⟩ := r k hlt
      have HR := Lib.hid hR
      obtain ⟨rfl, rfl⟩ := hR
      have c0 := (hb.cell (p := ⟨b1, o1 + k * 3 + 0, none⟩) hb1).trans (e1 0 (by simp))
      have c1 := (hb.cell (p := ⟨b1, o1 + k * 3 + 1, none⟩) hb1).trans (e1 1 (by simp))
      have c2 := (hb.cell (p := ⟨b1, o1 + k * 3 + 2, none⟩) hb1).trans (e1 2 (by simp))
      simp only [Nat.add_zero, List.getElem_cons_zero, List.getElem_cons_succ] at c0 c1 c2
      clear r e1 hb hbf hff
      have q0 := keep_cell HB.out x0
      have q1 := keep_cell HB.out x1
      have q2 := keep_cell HB.out x2
      have q3 := keep_cell HB.out y0
      have q4 := keep_cell HB.out y1
      have q5 := keep_cell HB.out y2
      have q6 := keep_cell HB.out ha
      have q7 := keep_cell HB.out hkc
      have G2 := Lib.hid (SlR.below (slR_fits reqR_fits) g2 HB.out)
      have HM := Lib.hid (hm.below HB.out)
      go_wp2_with fail
      refine (late_any cb eb ab kb bm mb bc f ev z hbus he v0 v1 v2 fp2 l[k] (hev k i1) _ q0 q1 q2 G2.out q3 q4 q5 q6 HM.out q7).mono ?_
      rintro e w2 ⟨rfl, b2⟩
      have HB2 := Lib.hid (HB.out.trans (b2.mono HB.out.size))
      clear b2 c0 c1 c2
      cases hq : (lateB bc f ev z) l[k]
      · have HQ := Lib.hid hq
        clear hq
        go_wp2
        go_roundw
        case rel => exact ⟨k + 1, by omega, by go_num, fun j h hj => (by
          by_cases e : j = k
          · subst e; exact HQ.out
          · exact HP.out j h (by omega)), HB2.out⟩
        case measure => simp [intOf]; omega
      · have HQ := Lib.hid hq
        clear hq
        go_wp2
        go_ret
        exact ⟨ret_int (idxOf_hit i1 HQ.out (fun j h hj => HP.out j h hj)).symm, HB2.out⟩
    · clear r hb
      go_wp2
      go_ret
      exact ⟨ret_int (idxOf_none (fun j h => HP.out j h (by rw [hn.out] at h; omega))).symm, HB.out⟩

theorem containsLate (cb eb ab kb bm mb : Nat) (bc : Bus) (f : Ev → Option Int) (ev : Ev) (z : Int) (hbus : busOk bc = true) (he : evOk bc ev = true) (v0 v1 v2 : Value) (fp2 : List Nat) (v : Value) (l : List Ev) (fp : List Nat) (w : World) (hev : ∀ k (h : k < l.length), evOk bc l[k] = true) (x0 : w.cell? ⟨cb, 0, none⟩ = some v0) (x1 : w.cell? ⟨cb, 1, none⟩ = some v1) (x2 : w.cell? ⟨cb, 2, none⟩ = some v2) (g2 : SlR 1 (slR 7 reqR) w bc.progs v2 fp2) (y0 : w.cell? ⟨eb, 0, none⟩ = some (.int .i64 ev.kind)) (y1 : w.cell? ⟨eb, 1, none⟩ = some (.int .i64 ev.who)) (y2 : w.cell? ⟨eb, 2, none⟩ = some (.int .i64 ev.n)) (ha : w.cell? ⟨ab, 0, none⟩ = some (.map (some bm))) (hm : IntM Try.prog 39 3 evV bm mb w f) (hkc : w.cell? ⟨kb, 0, none⟩ = some (.int .i64 z)) (g : SlR 3 evR w l v fp) :
    Calls Try.prog 98 #[v, .func (.func 99) #[] #[.pointer (some ⟨cb, 0, none⟩), .pointer (some ⟨eb, 0, none⟩), .pointer (some ⟨ab, 0, none⟩), .pointer (some ⟨kb, 0, none⟩)]] w fun e w' => e = .returned (.bool (l.any (lateB bc f ev z))) ∧ Below w.heap.size w w' := by
  go_enter Try.func98, Try.ntmps98
  go_wp2_with fail
  refine (indexLate cb eb ab kb bm mb bc f ev z hbus he v0 v1 v2 fp2 v l fp _ hev x0 x1 x2 g2 y0 y1 y2 ha hm hkc g).mono ?_
  rintro e w' ⟨rfl, hb⟩
  have HB := Lib.hid hb
  clear hb
  cases hq : decide (0 ≤ idxOf (lateB bc f ev z) l)
  all_goals
    go_wp2
    go_ret
    exact ⟨ret_bool (by rw [← idxOf_any, hq]), HB.out⟩


theorem cond_no1 {c : Bus} {a b : List Ev} {f : Ev → Option Int} {i : Nat} (hi : i < a.length) (hl : a.length = b.length) (hf : LastF b b.length f) (hn : ¬ CondI c a f i hi) : (onceB a && (onceB b && orderB c a b)) = false := by
  cases h1 : onceB a with
  | false => rfl
  | true =>
    cases h2 : onceB b with
    | false => rfl
    | true =>
      cases h3 : orderB c a b with
      | false => rfl
      | true => exact absurd (same_cond h1 h2 h3 hf i hi) hn

theorem late_any_list {c : Bus} {a : List Ev} {f : Ev → Option Int} {e : Ev} {z : Int} {i : Nat} (h : (a.take i).any (lateB c f e z) = true) : ∃ (j : Nat) (hj : j < a.length), j < i ∧ apartB c a[j] e = false ∧ z < (f a[j]).getD 0 := by
  rw [List.any_eq_true] at h
  obtain ⟨x, hx, hb⟩ := h
  obtain ⟨j, hj, rfl⟩ := List.mem_iff_getElem.1 hx
  unfold lateB at hb
  simp only [Bool.and_eq_true, Bool.not_eq_true', decide_eq_true_eq, List.getElem_take] at hb
  have hj2 : j < i ∧ j < a.length := by rw [List.length_take] at hj; omega
  exact ⟨j, hj2.2, hj2.1, hb.1, hb.2⟩
theorem late_no_list {c : Bus} {a : List Ev} {f : Ev → Option Int} {e : Ev} {z : Int} {i : Nat} (h : (a.take i).any (lateB c f e z) = false) : ∀ j (hj : j < a.length), j < i → apartB c a[j] e = true ∨ (f a[j]).getD 0 ≤ z := by
  intro j hj hji
  rw [List.any_eq_false] at h
  have hjt : j < (a.take i).length := by rw [List.length_take]; omega
  have := h (a.take i)[j] (List.getElem_mem hjt)
  rw [List.getElem_take] at this
  unfold lateB at this
  simp only [Bool.and_eq_true, Bool.not_eq_true', decide_eq_true_eq] at this
  cases hp : apartB c a[j] e with
  | true => exact .inl rfl
  | false => right; exact Int.not_lt.1 fun hlt => this ⟨hp, hlt⟩

theorem Chg.grown {w w' : World} {b : Nat} (h : w.grownBy w' (some b)) : Chg [b] w w' := ⟨h.os, h.tape, h.output, h.size, fun k hk hn => h.block k hk (fun e => hn (by simp [Option.some.inj e]))⟩

set_option maxRecDepth 100000 in
set_option maxHeartbeats 6400000 in
theorem iTrcSame_any (c : Bus) (v0 v1 v2 : Value) (fp0 fp1 fp2 : List Nat) (va : Value) (a : List Ev) (fa : List Nat) (vb : Value) (b : List Ev) (fb : List Nat) (w : World) (g0 : SlR 4 mrR w c.map v0 fp0) (g1 : SlR 1 intR w c.lat v1 fp1) (g2 : SlR 1 (slR 7 reqR) w c.progs v2 fp2) (ga : SlR 3 evR w a va fa) (gb : SlR 3 evR w b vb fb) :
    Calls Try.prog 33 #[.agg #[v0, v1, v2], va, vb] w fun e' w' => e' = .returned (.bool (trcSame c a b)) ∧ Below w.heap.size w w' := by
  obtain ⟨a1, n, c1, rfl, hn, hcap, hmax, hcm, -⟩ := ga.opened
  obtain ⟨a2, mb, c2, rfl, hm, -, hmx2, -, -⟩ := gb.opened
  have hb := below_alloc w (.cells #[v0, v1, v2] 32)
  have G0 := Lib.hid (SlR.below mrR_fits g0 hb)
  have G1 := Lib.hid (SlR.below intR_fits g1 hb)
  have G2 := Lib.hid (SlR.below (slR_fits reqR_fits) g2 hb)
  have GA := Lib.hid (SlR.below evR_fits ga hb)
  have GB := Lib.hid (SlR.below evR_fits gb hb)
  have B := Lib.hid hb
  have HL : Hid (decide (a.length = b.length) = !((n : Int) != mb)) := Lib.hid (by rw [hn.out, hm.out, Bool.eq_iff_iff]; simp; omega)
  have X0 : (w.alloc (.cells #[v0, v1, v2] 32)).cell? ⟨w.heap.size, 0, none⟩ = some v0 := alloc1_new _ _ _ 0 rfl
  have X1 : (w.alloc (.cells #[v0, v1, v2] 32)).cell? ⟨w.heap.size, 1, none⟩ = some v1 := alloc1_new _ _ _ 1 rfl
  have X2 : (w.alloc (.cells #[v0, v1, v2] 32)).cell? ⟨w.heap.size, 2, none⟩ = some v2 := alloc1_new _ _ _ 2 rfl
  clear hb g0 g1 g2 ga gb
  cases q1 : tracedB c a
  case' true =>
    cases q2 : tracedB c b
    case' true => cases q3 : ((n : Int) != mb)
  case false =>
    have Q1 := Lib.hid q1
    clear q1
    have hmm := @run_makeMap Try.prog
    go_enter Try.func33, Try.ntmps33
    go_upto_region 1 with fail
    generalize w.alloc (.cells #[v0, v1, v2] 32) = w0 at *
    go_wp2_with fail
    refine (traced_any c _ _ _ fp0 fp1 fp2 _ a fa _ G0.out G1.out G2.out GA.out).mono ?_
    rw [Q1.out]
    rintro e w2 ⟨rfl, b⟩
    replace G0 := Lib.hid (SlR.below mrR_fits G0.out b)
    replace G1 := Lib.hid (SlR.below intR_fits G1.out b)
    replace G2 := Lib.hid (SlR.below (slR_fits reqR_fits) G2.out b)
    replace GA := Lib.hid (SlR.below evR_fits GA.out b)
    replace GB := Lib.hid (SlR.below evR_fits GB.out b)
    replace X0 := keep_cell b X0
    replace X1 := keep_cell b X1
    replace X2 := keep_cell b X2
    replace B := Lib.hid (B.out.trans (b.mono B.out.size))
    clear b
    go_wp2
    go_ret
    exact ⟨ret_bool (by unfold trcSame; rw [HL.out, Q1.out]; rfl), B.out⟩
  case true.false =>
    have Q1 := Lib.hid q1
    have Q2 := Lib.hid q2
    clear q1 q2
    have hmm := @run_makeMap Try.prog
    go_enter Try.func33, Try.ntmps33
    go_upto_region 1 with fail
    generalize w.alloc (.cells #[v0, v1, v2] 32) = w0 at *
    go_wp2_with fail
    refine (traced_any c _ _ _ fp0 fp1 fp2 _ a fa _ G0.out G1.out G2.out GA.out).mono ?_
    rw [Q1.out]
    rintro e w2 ⟨rfl, b⟩
    replace G0 := Lib.hid (SlR.below mrR_fits G0.out b)
    replace G1 := Lib.hid (SlR.below intR_fits G1.out b)
    replace G2 := Lib.hid (SlR.below (slR_fits reqR_fits) G2.out b)
    replace GA := Lib.hid (SlR.below evR_fits GA.out b)
    replace GB := Lib.hid (SlR.below evR_fits GB.out b)
    replace X0 := keep_cell b X0
    replace X1 := keep_cell b X1
    replace X2 := keep_cell b X2
    replace B := Lib.hid (B.out.trans (b.mono B.out.size))
    clear b
    go_wp2_with fail
    refine (traced_any c _ _ _ fp0 fp1 fp2 _ b fb _ G0.out G1.out G2.out GB.out).mono ?_
    rw [Q2.out]
    rintro e w2 ⟨rfl, b⟩
    replace G0 := Lib.hid (SlR.below mrR_fits G0.out b)
    replace G1 := Lib.hid (SlR.below intR_fits G1.out b)
    replace G2 := Lib.hid (SlR.below (slR_fits reqR_fits) G2.out b)
    replace GA := Lib.hid (SlR.below evR_fits GA.out b)
    replace GB := Lib.hid (SlR.below evR_fits GB.out b)
    replace X0 := keep_cell b X0
    replace X1 := keep_cell b X1
    replace X2 := keep_cell b X2
    replace B := Lib.hid (B.out.trans (b.mono B.out.size))
    clear b
    go_wp2
    go_ret
    exact ⟨ret_bool (by unfold trcSame; rw [HL.out, Q1.out, Q2.out]; rfl), B.out⟩
  case true.true.true =>
    have Q1 := Lib.hid q1
    have Q2 := Lib.hid q2
    have Q3 := Lib.hid q3
    clear q1 q2
    have hmm := @run_makeMap Try.prog
    go_enter Try.func33, Try.ntmps33
    go_upto_region 1 with fail
    generalize w.alloc (.cells #[v0, v1, v2] 32) = w0 at *
    go_wp2_with fail
    refine (traced_any c _ _ _ fp0 fp1 fp2 _ a fa _ G0.out G1.out G2.out GA.out).mono ?_
    rw [Q1.out]
    rintro e w2 ⟨rfl, b⟩
    replace G0 := Lib.hid (SlR.below mrR_fits G0.out b)
    replace G1 := Lib.hid (SlR.below intR_fits G1.out b)
    replace G2 := Lib.hid (SlR.below (slR_fits reqR_fits) G2.out b)
    replace GA := Lib.hid (SlR.below evR_fits GA.out b)
    replace GB := Lib.hid (SlR.below evR_fits GB.out b)
    replace X0 := keep_cell b X0
    replace X1 := keep_cell b X1
    replace X2 := keep_cell b X2
    replace B := Lib.hid (B.out.trans (b.mono B.out.size))
    clear b
    go_wp2_with fail
    refine (traced_any c _ _ _ fp0 fp1 fp2 _ b fb _ G0.out G1.out G2.out GB.out).mono ?_
    rw [Q2.out]
    rintro e w2 ⟨rfl, b⟩
    replace G0 := Lib.hid (SlR.below mrR_fits G0.out b)
    replace G1 := Lib.hid (SlR.below intR_fits G1.out b)
    replace G2 := Lib.hid (SlR.below (slR_fits reqR_fits) G2.out b)
    replace GA := Lib.hid (SlR.below evR_fits GA.out b)
    replace GB := Lib.hid (SlR.below evR_fits GB.out b)
    replace X0 := keep_cell b X0
    replace X1 := keep_cell b X1
    replace X2 := keep_cell b X2
    replace B := Lib.hid (B.out.trans (b.mono B.out.size))
    clear b
    go_wp2
    go_ret
    exact ⟨ret_bool (by unfold trcSame; rw [HL.out, Q1.out, Q2.out, Q3.out]; rfl), B.out⟩
  case true.true.false =>
    have Q1 := Lib.hid q1
    have Q2 := Lib.hid q2
    have Q3 := Lib.hid q3
    clear q1 q2
    have hmm := @run_makeMap Try.prog
    go_enter Try.func33, Try.ntmps33
    go_upto_region 1 with fail
    generalize w.alloc (.cells #[v0, v1, v2] 32) = w0 at *
    go_wp2_with fail
    refine (traced_any c _ _ _ fp0 fp1 fp2 _ a fa _ G0.out G1.out G2.out GA.out).mono ?_
    rw [Q1.out]
    rintro e w2 ⟨rfl, b⟩
    replace G0 := Lib.hid (SlR.below mrR_fits G0.out b)
    replace G1 := Lib.hid (SlR.below intR_fits G1.out b)
    replace G2 := Lib.hid (SlR.below (slR_fits reqR_fits) G2.out b)
    replace GA := Lib.hid (SlR.below evR_fits GA.out b)
    replace GB := Lib.hid (SlR.below evR_fits GB.out b)
    replace X0 := keep_cell b X0
    replace X1 := keep_cell b X1
    replace X2 := keep_cell b X2
    replace B := Lib.hid (B.out.trans (b.mono B.out.size))
    clear b
    go_wp2_with fail
    refine (traced_any c _ _ _ fp0 fp1 fp2 _ b fb _ G0.out G1.out G2.out GB.out).mono ?_
    rw [Q2.out]
    rintro e w2 ⟨rfl, b⟩
    replace G0 := Lib.hid (SlR.below mrR_fits G0.out b)
    replace G1 := Lib.hid (SlR.below intR_fits G1.out b)
    replace G2 := Lib.hid (SlR.below (slR_fits reqR_fits) G2.out b)
    replace GA := Lib.hid (SlR.below evR_fits GA.out b)
    replace GB := Lib.hid (SlR.below evR_fits GB.out b)
    replace X0 := keep_cell b X0
    replace X1 := keep_cell b X1
    replace X2 := keep_cell b X2
    replace B := Lib.hid (B.out.trans (b.mono B.out.size))
    clear b
    obtain ⟨_, _, _, ea, -, -, -, -, r⟩ := GA.out.opened
    simp only [Value.slice.injEq] at ea
    obtain ⟨rfl, rfl, rfl⟩ := ea
    obtain ⟨_, _, _, ea, -, -, -, -, rb⟩ := GB.out.opened
    simp only [Value.slice.injEq] at ea
    obtain ⟨rfl, rfl, rfl⟩ := ea
    have HB0 := Lib.hid (traced_at Q1.out).1
    have HT := Lib.hid (traced_at Q1.out).2.2
    have HTb := Lib.hid (traced_at Q2.out).2.2
    have hmle : mb ≤ 200 := by have := (traced_at Q2.out).2.1; rw [hm.out] at this; exact this
    have HLL : Hid (a.length = b.length) := Lib.hid (by have := HL.out; rw [Q3.out] at this; simpa using this)
    have HS : Hid (trcSame c a b = (onceB a && (onceB b && orderB c a b))) := Lib.hid (by unfold trcSame; rw [HL.out, Q1.out, Q2.out, Q3.out]; rfl)
    have RA := Lib.hid r
    have RB := Lib.hid rb
    clear r rb
    obtain ⟨w3, hw3⟩ : ∃ z, z = (w2.alloc (.map #[] 0)).alloc (.cells #[.map (some w2.heap.size)] 135) := ⟨_, rfl⟩
    have b23 : Below w2.heap.size w2 w3 := by rw [hw3]; exact (below_alloc _ _).trans ((below_alloc _ _).mono (by simp))
    have M0 : Hid (IntM Try.prog 39 3 evV w2.heap.size 0 w3 (fun _ => none)) := Lib.hid (by rw [hw3]; exact (IntM.made w2).below (below_alloc _ _))
    have A3 : w3.cell? ⟨w2.heap.size + 1, 0, none⟩ = some (.map (some w2.heap.size)) := by rw [hw3]; rw [World.cell?_alloc_at _ _ _ _ (by simp)]; rfl
    have z3 : w2.heap.size + 1 < w3.heap.size := by rw [hw3]; simp
    have B23 := Lib.hid b23
    clear b23
    go_wp2_with fail
    rw [← hw3]
    clear hw3
    go_loopw [35] (fun i wr => ∃ (t : Nat) (f : Ev → Option Int), t ≤ mb ∧ i = .int .i64 t ∧ LastF b t f ∧ IntM Try.prog 39 3 evV w2.heap.size t wr f ∧ Chg [w2.heap.size] w3 wr) (fun i _ => mb - (intOf i).toNat)
    case atStart => exact ⟨0, _, Nat.zero_le _, rfl, LastF.zero b, M0.out, Chg.refl _ _⟩
    case round =>
      clear M0
      obtain ⟨t, f, ht, rfl, hf, hm5, hc⟩ := hrel
      have HF := Lib.hid hf
      have HM := Lib.hid hm5
      have HC := Lib.hid hc
      clear hf hm5
      by_cases htm : t < mb
      · obtain ⟨i1, b1, o1, f1, cs, rfl, hb1, _, _, ⟨rfl, rfl⟩, e1⟩ := RB.out t htm
        have hnb : b1 ∉ [w2.heap.size] := by simp; omega
        have c0 := keep_cell_chg hc (keep_cell B23.out (e1 0 (by simp))) hnb
        have c1' := keep_cell_chg hc (keep_cell B23.out (e1 1 (by simp))) hnb
        have c2' := keep_cell_chg hc (keep_cell B23.out (e1 2 (by simp))) hnb
        simp only [Nat.add_zero, List.getElem_cons_zero, List.getElem_cons_succ] at c0 c1' c2'
        have aa := keep_cell_chg hc A3 (by simp)
        have za := block_of_cell aa
        obtain ⟨l, hl⟩ := evOk_key HB0.out (HTb.out t i1)
        have HK := Lib.hid hl
        clear e1 hc hl hnb
        go_wp2_with (at_mapUpdate; refine wpList_setM rfl _ _ _ 135 rfl evKeyed Try.underlying135 Try.underlying3 evV_inj rfl (HM.out.below (below_alloc _ _)) (by unfold maxLen; omega) b[t] t l rfl rfl (wf_small (by omega)) HK.out ?_; intro w5 hm5 hg5; have HM5 := Lib.hid hm5; have HC5 := Lib.hid ((HC.out.trans' ((below_alloc _ _).chg _)).trans' (Chg.grown hg5)); clear hm5 hg5)
        go_roundw
        case rel => exact ⟨t + 1, _, by omega, by go_num, HF.out.step i1, HM5.out, HC5.out⟩
        case measure => simp [intOf]; omega
      · obtain rfl : t = mb := by omega
        obtain ⟨ws, hws⟩ : ∃ z, z = wr.alloc (.map #[] 0) := ⟨_, rfl⟩
        have HFb : Hid (LastF b b.length f) := Lib.hid (by rw [hm.out]; exact HF.out)
        have bs : Below wr.heap.size wr ws := by rw [hws]; exact below_alloc _ _
        have Bt : Hid (BoolM Try.prog 39 4 evV wr.heap.size 0 ws (fun _ => false) 0) := Lib.hid (by rw [hws]; exact BoolM.made wr)
        have Ms := Lib.hid (HM.out.below bs)
        have As := keep_cell bs (keep_cell_chg hc A3 (by simp))
        have bw : Below w2.heap.size w2 ws := (B23.out.trans (hc.under B23.out.size (fun k hk => by simp at hk; omega))).trans (bs.mono (Nat.le_trans B23.out.size hc.size))
        have zs : w2.heap.size + 1 < wr.heap.size := Nat.lt_of_lt_of_le z3 hc.size
        have x0 := keep_cell bw X0
        have x1 := keep_cell bw X1
        have x2 := keep_cell bw X2
        have Gs := Lib.hid (SlR.below (slR_fits reqR_fits) G2.out bw)
        have BW := Lib.hid bw
        have hwb : w.heap.size < w2.heap.size := block_of_cell X0
        have BB := Lib.hid (B.out.trans (bw.mono B.out.size))
        have HFP : Hid (∀ q, q ∈ fp2 → q < w2.heap.size) := Lib.hid (G2.out.lt (slR_fits reqR_fits))
        have HFA : Hid (∀ q, q ∈ fa → q < w2.heap.size) := Lib.hid (GA.out.lt evR_fits)
        have hzs : wr.heap.size < ws.heap.size := by rw [hws]; simp
        clear hc bs bw A3 X0 X1 X2 G2 G0 G1 GB HM HF RB
        go_wp2_with fail
        rw [← hws]
        clear hws HC
        generalize hbt : wr.heap.size = bt at Bt zs hzs ⊢
        clear hbt
        go_loopw [47] (fun i wr2 => ∃ k : Nat, k ≤ n ∧ i = .int .i64 k ∧ (∀ j (h : j < a.length), j < k → CondI c a f j h) ∧ BoolM Try.prog 39 4 evV bt k wr2 (fun q => decide (q ∈ a.take k)) k ∧ Chg [bt] ws wr2) (fun i _ => n - (intOf i).toNat)
        case atStart => exact ⟨0, Nat.zero_le _, rfl, fun j _ h => absurd h (Nat.not_lt_zero j), (by simpa using Bt.out), Chg.refl _ _⟩
        case round =>
          obtain ⟨k, hk, rfl, hp, hbm, hc⟩ := hrel
          have HP := Lib.hid hp
          have HBM := Lib.hid hbm
          have HC := Lib.hid hc
          clear hp hbm
          by_cases hlt : k < n
          · obtain ⟨i1, b1, o1, f1, cs, rfl, hb1, hbfa, _, ⟨rfl, rfl⟩, e1⟩ := RA.out k hlt
            have hnb : b1 ∉ [bt] := by simp; omega
            have c0 := keep_cell_chg hc (keep_cell BW.out (e1 0 (by simp))) hnb
            have c1' := keep_cell_chg hc (keep_cell BW.out (e1 1 (by simp))) hnb
            have c2' := keep_cell_chg hc (keep_cell BW.out (e1 2 (by simp))) hnb
            simp only [Nat.add_zero, List.getElem_cons_zero, List.getElem_cons_succ] at c0 c1' c2'
            have aa := keep_cell_chg hc As (by simp; omega)
            have za := block_of_cell aa
            have hwn : w.heap.size ∉ [bt] := by simp; omega
            have X0 := keep_cell_chg hc x0 hwn
            have X1 := keep_cell_chg hc x1 hwn
            have X2 := keep_cell_chg hc x2 hwn
            have HIM := Lib.hid (Ms.out.same (hc.block w2.heap.size Ms.out.lt (by simp; omega)))
            have G2 := Lib.hid (Gs.out.chg (slR_fits reqR_fits) hc (fun q hq => by have := HFP.out q hq; simp; omega))
            have GA2 := Lib.hid ((SlR.below evR_fits GA.out BW.out).chg evR_fits hc (fun q hq => by have := HFA.out q hq; simp; omega))
            have hzr : bt < wr.heap.size := Nat.lt_of_lt_of_le hzs hc.size
            obtain ⟨l, hl⟩ := evOk_key HB0.out (HT.out k i1)
            have HK := Lib.hid hl
            obtain ⟨s, hs⟩ : ∃ q, (f a[k]).isSome = q := ⟨_, rfl⟩
            obtain ⟨z, hz⟩ : ∃ q, (f a[k]).getD 0 = q := ⟨_, rfl⟩
            obtain ⟨mt, hmt⟩ : ∃ q, decide (a[k] ∈ a.take k) = q := ⟨_, rfl⟩
            have HSm := Lib.hid hs
            have HZ := Lib.hid hz
            have HMT := Lib.hid hmt
            obtain ⟨w4, hw4⟩ : ∃ q, q = (wr.alloc (.cells #[.int .i64 a[k].kind, .int .i64 a[k].who, .int .i64 a[k].n] 39)).alloc (.cells #[.int .i64 z] 3) := ⟨_, rfl⟩
            have b4 : Below wr.heap.size wr w4 := by rw [hw4]; exact (below_alloc _ _).trans ((below_alloc _ _).mono (by simp))
            have E0 : w4.cell? ⟨wr.heap.size, 0, none⟩ = some (.int .i64 a[k].kind) := by rw [hw4]; exact alloc_keep (alloc1_new _ _ _ 0 rfl) _
            have E1 : w4.cell? ⟨wr.heap.size, 1, none⟩ = some (.int .i64 a[k].who) := by rw [hw4]; exact alloc_keep (alloc1_new _ _ _ 1 rfl) _
            have E2 : w4.cell? ⟨wr.heap.size, 2, none⟩ = some (.int .i64 a[k].n) := by rw [hw4]; exact alloc_keep (alloc1_new _ _ _ 2 rfl) _
            have K0 : w4.cell? ⟨wr.heap.size + 1, 0, none⟩ = some (.int .i64 z) := by rw [hw4]; exact alloc2_new _ _ _ _ _ 0 rfl
            have B4 := Lib.hid b4
            have C4 := Lib.hid (HC.out.trans' (b4.chg [bt]))
            have HW4 := Lib.hid hw4
            clear e1 hc hl hs hz hmt hw4 b4 hnb hwn
            have hkk : (k : Int) < (n : Int) := by omega
            have hbT : Hid (∀ x, Below bt wr x → Below w.heap.size w x) := Lib.hid (fun x hx => (BB.out.trans (HC.out.under BB.out.size (fun q hq => by simp at hq; omega))).trans (hx.mono (by omega)))
            cases s
            · go_wp2_with (at_lookup; refine wpList_lookM_ok rfl _ _ 135 rfl evKeyed Try.underlying135 Try.underlying3 (zero_int _) rfl (HIM.out.below (below_alloc _ _)) a[k] l rfl HK.out ?_; rw [HZ.out, HSm.out])
              go_ret
              refine ⟨ret_bool ?_, hbT.out _ (by rw [← HW4.out]; exact B4.out.mono (by omega))⟩
              rw [HS.out]
              exact (cond_no1 i1 HLL.out HFb.out (fun h => by rw [CondI, HSm.out] at h; simp at h)).symm
            cases mt
            · go_wp2_with (first
                | (at_lookup; refine wpList_lookM_ok rfl _ _ 135 rfl evKeyed Try.underlying135 Try.underlying3 (zero_int _) rfl (HIM.out.below (below_alloc _ _)) a[k] l rfl HK.out ?_; rw [HZ.out, HSm.out])
                | (at_lookup; refine wpList_guarded rfl ?_; refine wpList_lookB rfl _ _ 136 rfl evKeyed Try.underlying136 Try.underlying4 (zero_bool _) rfl (by rw [← HW4.out]; exact HBM.out.below B4.out) a[k] l rfl HK.out ?_; rw [HMT.out])
                | (at_mapUpdate; refine wpList_setB rfl _ _ _ 136 rfl evKeyed Try.underlying136 Try.underlying4 evV_inj rfl (by rw [← HW4.out]; exact HBM.out.below B4.out) (by unfold maxLen; omega) a[k] l HMT.out rfl rfl HK.out ?_; rw [← HW4.out]; intro w7 hm7 hg7))
              have hc7 := Chg.grown hg7
              have n1 : wr.heap.size ∉ [bt] := by simp; omega
              have n2 : wr.heap.size + 1 ∉ [bt] := by simp; omega
              have n3 : w.heap.size ∉ [bt] := by simp; omega
              have n4 : w2.heap.size + 1 ∉ [bt] := by simp; omega
              have e0 := keep_cell_chg hc7 E0 n1
              have e1 := keep_cell_chg hc7 E1 n1
              have e2 := keep_cell_chg hc7 E2 n1
              have k0 := keep_cell_chg hc7 K0 n2
              have y0 := keep_cell_chg hc7 (keep_cell B4.out X0) n3
              have y1 := keep_cell_chg hc7 (keep_cell B4.out X1) n3
              have y2 := keep_cell_chg hc7 (keep_cell B4.out X2) n3
              have ab := keep_cell_chg hc7 (keep_cell B4.out aa) n4
              have HI7 := Lib.hid ((HIM.out.below B4.out).kept hg7 (by simp; omega))
              have G7 := Lib.hid ((SlR.below (slR_fits reqR_fits) G2.out B4.out).chg (slR_fits reqR_fits) hc7 (fun q hq => by have := HFP.out q hq; simp; omega))
              obtain ⟨fq, hta, hfq⟩ := GA2.out.take k (by omega)
              have T7 := Lib.hid ((SlR.below evR_fits hta B4.out).chg evR_fits hc7 (fun q hq => by have := HFA.out q (hfq q hq); simp; omega))
              have hev : ∀ j (h : j < (a.take k).length), evOk c (a.take k)[j] = true := fun j h => by
                rw [List.getElem_take]
                exact HT.out j (by rw [List.length_take] at h; omega)
              have HEV := Lib.hid hev
              obtain ⟨lt, hlate⟩ : ∃ q, (a.take k).any (lateB c f a[k] z) = q := ⟨_, rfl⟩
              have HLT := Lib.hid hlate
              have HM7 := Lib.hid hm7
              have C7 := Lib.hid (C4.out.trans' hc7)
              clear hm7 hg7 hc7 n1 n2 n3 n4 hta hfq hev hlate c0 c1' c2' E0 E1 E2 K0
              cases lt
              all_goals
                refine (containsLate w.heap.size wr.heap.size (w2.heap.size + 1) (wr.heap.size + 1) w2.heap.size t c f a[k] z HB0.out (HT.out k i1) v0 v1 v2 fp2 _ (a.take k) fq _ HEV.out y0 y1 y2 G7.out e0 e1 e2 ab HI7.out k0 T7.out).mono ?_
                rw [HLT.out]
                rintro e w8 ⟨rfl, b8⟩
                have C8 := Lib.hid (C7.out.trans' (b8.chg [bt]))
                have HM8 := Lib.hid (HM7.out.below b8)
                clear b8 e0 e1 e2 k0 y0 y1 y2 ab
                go_wp2
              · go_roundw
                case rel => exact ⟨k + 1, by omega, by go_num, fun j h hj => (by
                  by_cases e : j = k
                  · subst e
                    refine ⟨HSm.out, fun i h' hi e' => ?_, fun i h' hi => ?_⟩
                    · have := of_decide_eq_false HMT.out
                      refine this (List.mem_iff_getElem.2 ⟨i, by rw [List.length_take]; omega, ?_⟩)
                      rw [List.getElem_take]; exact e'
                    · rw [HZ.out]; exact late_no_list HLT.out i h' hi
                  · exact HP.out j h (by omega)), (by
                    have hf : (fun q => decide (q ∈ a.take (k + 1))) = (fun q => decide (q = a[k]) || decide (q ∈ a.take k)) := by
                      funext q
                      rw [Bool.eq_iff_iff]
                      simp only [Bool.or_eq_true, decide_eq_true_eq]
                      rw [List.take_succ_eq_append_getElem i1, List.mem_append, List.mem_singleton]
                      exact or_comm
                    rw [hf]; exact HM8.out), C8.out⟩
                case measure => simp [intOf]; omega
              · go_ret
                refine ⟨ret_bool ?_, BB.out.trans (C8.out.under BB.out.size (fun q hq => by simp at hq; omega))⟩
                rw [HS.out]
                obtain ⟨j, hj, hjk, hap, hgt⟩ := late_any_list HLT.out
                refine (cond_no1 i1 HLL.out HFb.out (fun h => ?_)).symm
                rcases h.2.2 j hj hjk with h1 | h1
                · rw [hap] at h1; simp at h1
                · rw [HZ.out] at h1; omega
            · go_wp2_with (first
                | (at_lookup; refine wpList_lookM_ok rfl _ _ 135 rfl evKeyed Try.underlying135 Try.underlying3 (zero_int _) rfl (HIM.out.below (below_alloc _ _)) a[k] l rfl HK.out ?_; rw [HZ.out, HSm.out])
                | (at_lookup; refine wpList_guarded rfl ?_; refine wpList_lookB rfl _ _ 136 rfl evKeyed Try.underlying136 Try.underlying4 (zero_bool _) rfl (by rw [← HW4.out]; exact HBM.out.below B4.out) a[k] l rfl HK.out ?_; rw [HMT.out]))
              go_ret
              refine ⟨ret_bool ?_, hbT.out _ (by rw [← HW4.out]; exact B4.out.mono (by omega))⟩
              rw [HS.out]
              refine (cond_no1 i1 HLL.out HFb.out (fun h => ?_)).symm
              have hm := of_decide_eq_true HMT.out
              obtain ⟨j, hj, e⟩ := List.mem_iff_getElem.1 hm
              have hj2 : j < k ∧ j < a.length := by rw [List.length_take] at hj; omega
              rw [List.getElem_take] at e
              exact h.2.1 j hj2.2 hj2.1 e
          · clear hc
            go_wp2
            go_ret
            refine ⟨ret_bool ?_, BB.out.trans (HC.out.under BB.out.size (fun q hq => by simp at hq; omega))⟩
            rw [HS.out]
            obtain ⟨h1, h2, h3⟩ := cond_same (fun i h => HP.out i h (by rw [hn.out] at h; omega)) HLL.out HFb.out
            rw [h1, h2, h3]
            rfl
end Go.Proofs.Ytmmojgopeaelcaa
