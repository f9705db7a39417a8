/-
  Whether two things that happen are apart: TrcApart (both).
-/
import Derived.Test.YtmcjklicepaiaaaQApart2
namespace Go.Proofs.Ytmcjklicepaiaaa
set_option linter.unusedVariables false
set_option linter.unusedSimpArgs false
open Go.RowKit Go.ChangeShapes

theorem evOk_asksB {c : Bus} {e : Ev} (h : evOk c e = true) : asksB c e.who e.n = true := by
  rw [evOk_asks] at h
  simp only [Bool.and_eq_true] at h
  exact h.2

theorem sApart_any (c : Bus) (a b : Ev) (hl : c.progs.length = 3) (ha : asksB c a.who a.n = true) (hb : asksB c b.who b.n = true) (v0 v1 v2 : Value) (fp2 : List Nat) (w : World) (g2 : SlR 1 (slR 7 reqR) w c.progs v2 fp2) :
    Calls Try.prog 77 #[.agg #[v0, v1, v2], .agg #[.int .i64 a.kind, .int .i64 a.who, .int .i64 a.n], .agg #[.int .i64 b.kind, .int .i64 b.who, .int .i64 b.n]] w fun e' w' => e' = .returned (.bool (apartB c a b)) ∧ Below w.heap.size w w' := by
  obtain ⟨ka, wa, na⟩ := a
  obtain ⟨kb, wb, nb⟩ := b
  obtain ⟨k, i, hk, hi, rfl, rfl⟩ : ∃ (k i : Nat) (hk : k < c.progs.length) (_ : i < c.progs[k].length), wa = k ∧ na = i := asks_at hl ha
  obtain ⟨k', i', hk', hi', rfl, rfl⟩ : ∃ (k i : Nat) (hk : k < c.progs.length) (_ : i < c.progs[k].length), wb = k ∧ nb = i := asks_at hl hb
  exact sApart_at c ka kb k i k' i' hk hi hk' hi' v0 v1 v2 fp2 hl w g2

theorem iApart_any (c : Bus) (a b : Ev) (hl : c.progs.length = 3) (ha : asksB c a.who a.n = true) (hb : asksB c b.who b.n = true) (v0 v1 v2 : Value) (fp2 : List Nat) (w : World) (g2 : SlR 1 (slR 7 reqR) w c.progs v2 fp2) :
    Calls Try.prog 75 #[.agg #[v0, v1, v2], .agg #[.int .i64 a.kind, .int .i64 a.who, .int .i64 a.n], .agg #[.int .i64 b.kind, .int .i64 b.who, .int .i64 b.n]] w fun e' w' => e' = .returned (.bool (apartB c a b)) ∧ Below w.heap.size w w' := by
  obtain ⟨ka, wa, na⟩ := a
  obtain ⟨kb, wb, nb⟩ := b
  obtain ⟨k, i, hk, hi, rfl, rfl⟩ : ∃ (k i : Nat) (hk : k < c.progs.length) (_ : i < c.progs[k].length), wa = k ∧ na = i := asks_at hl ha
  obtain ⟨k', i', hk', hi', rfl, rfl⟩ : ∃ (k i : Nat) (hk : k < c.progs.length) (_ : i < c.progs[k].length), wb = k ∧ nb = i := asks_at hl hb
  exact iApart_at c ka kb k i k' i' hk hi hk' hi' v0 v1 v2 fp2 hl w g2

set_option maxRecDepth 100000 in
set_option maxHeartbeats 6400000 in
theorem sTrcApart_any (c : Bus) (v0 v1 v2 : Value) (fp0 fp1 fp2 : List Nat) (a b : Ev) (w : World) (g0 : SlR 4 mrR w c.map v0 fp0) (g1 : SlR 1 intR w c.lat v1 fp1) (g2 : SlR 1 (slR 7 reqR) w c.progs v2 fp2) :
    Calls Try.prog 26 #[.agg #[v0, v1, v2], .agg #[.int .i64 a.kind, .int .i64 a.who, .int .i64 a.n], .agg #[.int .i64 b.kind, .int .i64 b.who, .int .i64 b.n]] w fun e w' => e = .returned (.bool (trcApart c a b)) ∧ Below w.heap.size w w' := by
  obtain ⟨ka, wa, na⟩ := a
  obtain ⟨kb, wb, nb⟩ := b
  obtain ⟨w0, hw0⟩ : ∃ w0, w0 = ((w.alloc (.cells #[v0, v1, v2] 38)).alloc (.cells #[.int .i64 ka, .int .i64 wa, .int .i64 na] 47)).alloc (.cells #[.int .i64 kb, .int .i64 wb, .int .i64 nb] 47) := ⟨_, rfl⟩
  have hb0 : Below w.heap.size w w0 := by rw [hw0]; exact below3 w _ _ _
  have X0 : w0.cell? ⟨w.heap.size, 0, none⟩ = some v0 := by rw [hw0]; exact alloc_keep (alloc_keep (alloc1_new _ _ _ 0 rfl) _) _
  have X1 : w0.cell? ⟨w.heap.size, 1, none⟩ = some v1 := by rw [hw0]; exact alloc_keep (alloc_keep (alloc1_new _ _ _ 1 rfl) _) _
  have X2 : w0.cell? ⟨w.heap.size, 2, none⟩ = some v2 := by rw [hw0]; exact alloc_keep (alloc_keep (alloc1_new _ _ _ 2 rfl) _) _
  have A0 : w0.cell? ⟨w.heap.size + 1, 0, none⟩ = some (.int .i64 ka) := by rw [hw0]; exact alloc_keep (alloc2_new _ _ _ _ _ 0 rfl) _
  have A1 : w0.cell? ⟨w.heap.size + 1, 1, none⟩ = some (.int .i64 wa) := by rw [hw0]; exact alloc_keep (alloc2_new _ _ _ _ _ 1 rfl) _
  have A2 : w0.cell? ⟨w.heap.size + 1, 2, none⟩ = some (.int .i64 na) := by rw [hw0]; exact alloc_keep (alloc2_new _ _ _ _ _ 2 rfl) _
  have B0 : w0.cell? ⟨w.heap.size + 1 + 1, 0, none⟩ = some (.int .i64 kb) := by rw [hw0]; exact alloc3_new _ _ _ _ _ _ 0 rfl
  have B1 : w0.cell? ⟨w.heap.size + 1 + 1, 1, none⟩ = some (.int .i64 wb) := by rw [hw0]; exact alloc3_new _ _ _ _ _ _ 1 rfl
  have B2 : w0.cell? ⟨w.heap.size + 1 + 1, 2, none⟩ = some (.int .i64 nb) := by rw [hw0]; exact alloc3_new _ _ _ _ _ _ 2 rfl
  have B := Lib.hid hb0
  have G0 := Lib.hid (SlR.below mrR_fits g0 hb0)
  have G1 := Lib.hid (SlR.below intR_fits g1 hb0)
  have G2 := Lib.hid (SlR.below (slR_fits reqR_fits) g2 hb0)
  clear g0 g1 g2 hb0
  cases q0 : busOk c
  case' true =>
    have HL := Lib.hid (busOk_progs q0)
    cases q1 : evOk c ⟨ka, wa, na⟩
    case' true => cases q2 : evOk c ⟨kb, wb, nb⟩
  all_goals
    have Q0 := Lib.hid q0
    (try have Q1 := Lib.hid q1)
    (try have Q2 := Lib.hid q2)
    clear q0
    (try clear q1)
    (try clear q2)
    go_enter Try.func26, Try.ntmps26
    go_upto_region 1 with fail
    rw [← hw0]
    clear hw0
    go_wp2_with (first
      | (go_at_call 19; refine (sBusOk_any c _ _ _ fp0 fp1 fp2 _ G0.out G1.out G2.out).mono ?_; rw [Q0.out]; rintro e w2 ⟨rfl, b⟩; replace G2 := Lib.hid (SlR.below (slR_fits reqR_fits) G2.out b); replace X0 := keep_cell b X0; replace X1 := keep_cell b X1; replace X2 := keep_cell b X2; replace A0 := keep_cell b A0; replace A1 := keep_cell b A1; replace A2 := keep_cell b A2; replace B0 := keep_cell b B0; replace B1 := keep_cell b B1; replace B2 := keep_cell b B2; replace B := Lib.hid (B.out.trans (b.mono B.out.size)); clear b)
      | (go_at_call 76; refine (sDoes_any c ⟨_, _, _⟩ _ _ _ fp2 HL.out _ G2.out).mono ?_; (first | rw [Q1.out] | rw [Q2.out]); rintro e w2 ⟨rfl, b⟩; replace G2 := Lib.hid (SlR.below (slR_fits reqR_fits) G2.out b); replace X0 := keep_cell b X0; replace X1 := keep_cell b X1; replace X2 := keep_cell b X2; replace A0 := keep_cell b A0; replace A1 := keep_cell b A1; replace A2 := keep_cell b A2; replace B0 := keep_cell b B0; replace B1 := keep_cell b B1; replace B2 := keep_cell b B2; replace B := Lib.hid (B.out.trans (b.mono B.out.size)); clear b)
      | (go_at_call 77; refine (sApart_any c ⟨_, _, _⟩ ⟨_, _, _⟩ HL.out (evOk_asksB Q1.out) (evOk_asksB Q2.out) _ _ _ fp2 _ G2.out).mono ?_; rintro e w2 ⟨rfl, b⟩; replace B := Lib.hid (B.out.trans (b.mono B.out.size)); clear b))
    all_goals go_ret
    all_goals refine ⟨ret_bool ?_, B.out⟩
    all_goals unfold trcApart
    all_goals rw [Q0.out]
    all_goals (try rw [Q1.out])
    all_goals (try rw [Q2.out])
    all_goals rfl

set_option maxRecDepth 100000 in
set_option maxHeartbeats 6400000 in
theorem iTrcApart_any (c : Bus) (v0 v1 v2 : Value) (fp0 fp1 fp2 : List Nat) (a b : Ev) (w : World) (g0 : SlR 4 mrR w c.map v0 fp0) (g1 : SlR 1 intR w c.lat v1 fp1) (g2 : SlR 1 (slR 7 reqR) w c.progs v2 fp2) :
    Calls Try.prog 25 #[.agg #[v0, v1, v2], .agg #[.int .i64 a.kind, .int .i64 a.who, .int .i64 a.n], .agg #[.int .i64 b.kind, .int .i64 b.who, .int .i64 b.n]] w fun e w' => e = .returned (.bool (trcApart c a b)) ∧ Below w.heap.size w w' := by
  obtain ⟨ka, wa, na⟩ := a
  obtain ⟨kb, wb, nb⟩ := b
  obtain ⟨w0, hw0⟩ : ∃ w0, w0 = ((w.alloc (.cells #[v0, v1, v2] 38)).alloc (.cells #[.int .i64 ka, .int .i64 wa, .int .i64 na] 47)).alloc (.cells #[.int .i64 kb, .int .i64 wb, .int .i64 nb] 47) := ⟨_, rfl⟩
  have hb0 : Below w.heap.size w w0 := by rw [hw0]; exact below3 w _ _ _
  have X0 : w0.cell? ⟨w.heap.size, 0, none⟩ = some v0 := by rw [hw0]; exact alloc_keep (alloc_keep (alloc1_new _ _ _ 0 rfl) _) _
  have X1 : w0.cell? ⟨w.heap.size, 1, none⟩ = some v1 := by rw [hw0]; exact alloc_keep (alloc_keep (alloc1_new _ _ _ 1 rfl) _) _
  have X2 : w0.cell? ⟨w.heap.size, 2, none⟩ = some v2 := by rw [hw0]; exact alloc_keep (alloc_keep (alloc1_new _ _ _ 2 rfl) _) _
  have A0 : w0.cell? ⟨w.heap.size + 1, 0, none⟩ = some (.int .i64 ka) := by rw [hw0]; exact alloc_keep (alloc2_new _ _ _ _ _ 0 rfl) _
  have A1 : w0.cell? ⟨w.heap.size + 1, 1, none⟩ = some (.int .i64 wa) := by rw [hw0]; exact alloc_keep (alloc2_new _ _ _ _ _ 1 rfl) _
  have A2 : w0.cell? ⟨w.heap.size + 1, 2, none⟩ = some (.int .i64 na) := by rw [hw0]; exact alloc_keep (alloc2_new _ _ _ _ _ 2 rfl) _
  have B0 : w0.cell? ⟨w.heap.size + 1 + 1, 0, none⟩ = some (.int .i64 kb) := by rw [hw0]; exact alloc3_new _ _ _ _ _ _ 0 rfl
  have B1 : w0.cell? ⟨w.heap.size + 1 + 1, 1, none⟩ = some (.int .i64 wb) := by rw [hw0]; exact alloc3_new _ _ _ _ _ _ 1 rfl
  have B2 : w0.cell? ⟨w.heap.size + 1 + 1, 2, none⟩ = some (.int .i64 nb) := by rw [hw0]; exact alloc3_new _ _ _ _ _ _ 2 rfl
  have B := Lib.hid hb0
  have G0 := Lib.hid (SlR.below mrR_fits g0 hb0)
  have G1 := Lib.hid (SlR.below intR_fits g1 hb0)
  have G2 := Lib.hid (SlR.below (slR_fits reqR_fits) g2 hb0)
  clear g0 g1 g2 hb0
  cases q0 : busOk c
  case' true =>
    have HL := Lib.hid (busOk_progs q0)
    cases q1 : evOk c ⟨ka, wa, na⟩
    case' true => cases q2 : evOk c ⟨kb, wb, nb⟩
  all_goals
    have Q0 := Lib.hid q0
    (try have Q1 := Lib.hid q1)
    (try have Q2 := Lib.hid q2)
    clear q0
    (try clear q1)
    (try clear q2)
    go_enter Try.func25, Try.ntmps25
    go_upto_region 1 with fail
    rw [← hw0]
    clear hw0
    go_wp2_with (first
      | (go_at_call 18; refine (iBusOk_any c _ _ _ fp0 fp1 fp2 _ G0.out G1.out G2.out).mono ?_; rw [Q0.out]; rintro e w2 ⟨rfl, b⟩; replace G2 := Lib.hid (SlR.below (slR_fits reqR_fits) G2.out b); replace X0 := keep_cell b X0; replace X1 := keep_cell b X1; replace X2 := keep_cell b X2; replace A0 := keep_cell b A0; replace A1 := keep_cell b A1; replace A2 := keep_cell b A2; replace B0 := keep_cell b B0; replace B1 := keep_cell b B1; replace B2 := keep_cell b B2; replace B := Lib.hid (B.out.trans (b.mono B.out.size)); clear b)
      | (go_at_call 74; refine (iKind_any c ⟨_, _, _⟩ _ _ _ fp2 HL.out _ G2.out).mono ?_; (first | rw [Q1.out] | rw [Q2.out]); rintro e w2 ⟨rfl, b⟩; replace G2 := Lib.hid (SlR.below (slR_fits reqR_fits) G2.out b); replace X0 := keep_cell b X0; replace X1 := keep_cell b X1; replace X2 := keep_cell b X2; replace A0 := keep_cell b A0; replace A1 := keep_cell b A1; replace A2 := keep_cell b A2; replace B0 := keep_cell b B0; replace B1 := keep_cell b B1; replace B2 := keep_cell b B2; replace B := Lib.hid (B.out.trans (b.mono B.out.size)); clear b)
      | (go_at_call 75; refine (iApart_any c ⟨_, _, _⟩ ⟨_, _, _⟩ HL.out (evOk_asksB Q1.out) (evOk_asksB Q2.out) _ _ _ fp2 _ G2.out).mono ?_; rintro e w2 ⟨rfl, b⟩; replace B := Lib.hid (B.out.trans (b.mono B.out.size)); clear b))
    all_goals go_ret
    all_goals refine ⟨ret_bool ?_, B.out⟩
    all_goals unfold trcApart
    all_goals rw [Q0.out]
    all_goals (try rw [Q1.out])
    all_goals (try rw [Q2.out])
    all_goals rfl

end Go.Proofs.Ytmcjklicepaiaaa
