/-
  Whether two things that happen are apart: asks, kind, l9Does; apart, l9Apart; TrcApart (both).
-/
import Derived.Test.YtmcjklicepaiaaaQMeet
import Derived.Test.YtmcjklicepaiaaaQFacts3
import Derived.Test.YtmcjklicepaiaaaPk09
import Derived.StillTailTactics
namespace Go.Proofs.Ytmcjklicepaiaaa
set_option linter.unusedVariables false
set_option linter.unusedSimpArgs false
open Go.RowKit Go.ChangeShapes

/-- something is one that is asked, of a kind -/
def evOk (c : Bus) (e : Ev) : Bool := inB e.kind 1 3 && (inB e.who 0 2 && inB e.n 0 ((((c.progs[e.who.toNat]?).getD []).length : Int) - 1))
def asksB (c : Bus) (who n : Int) : Bool := inB who 0 2 && inB n 0 ((((c.progs[who.toNat]?).getD []).length : Int) - 1)
theorem evOk_asks (c : Bus) (e : Ev) : evOk c e = (inB e.kind 1 3 && asksB c e.who e.n) := rfl
def reqAt (c : Bus) (e : Ev) : Option Req := (c.progs[e.who.toNat]?).bind fun p => p[e.n.toNat]?
def metO : Option Req → Option Req → Bool
  | some a, some b => meetB a b
  | _, _ => false
def apartB (c : Bus) (a b : Ev) : Bool := if a.who = b.who ∨ (a.kind = 3 ∧ b.kind = 3) then false else if a.kind ≠ 2 ∨ b.kind ≠ 2 then true else !metO (reqAt c a) (reqAt c b)
def trcApart (c : Bus) (a b : Ev) : Bool := busOk c && (evOk c a && (evOk c b && apartB c a b))

theorem busOk_progs {c : Bus} (h : busOk c = true) : c.progs.length = 3 := by
  unfold busOk at h
  simp only [Bool.and_eq_true, decide_eq_true_eq] at h
  omega
theorem asks_at {c : Bus} {who n : Int} (hl : c.progs.length = 3) (h : asksB c who n = true) : ∃ (k i : Nat) (hk : k < c.progs.length) (_ : i < c.progs[k].length), who = k ∧ n = i := by
  unfold asksB at h
  simp only [Bool.and_eq_true] at h
  obtain ⟨h1, h2⟩ := h
  have h1 := inB_true.1 h1
  have h2 := inB_true.1 h2
  obtain ⟨k, rfl⟩ := Int.eq_ofNat_of_zero_le h1.1
  obtain ⟨i, rfl⟩ := Int.eq_ofNat_of_zero_le h2.1
  have hk : k < c.progs.length := by omega
  refine ⟨k, i, hk, ?_, rfl, rfl⟩
  have e : (c.progs[((k : Nat) : Int).toNat]?).getD [] = c.progs[k] := by simp [hk]
  rw [e] at h2
  omega
theorem asks_of {c : Bus} {k : Nat} (n : Int) (hl : c.progs.length = 3) (hk : k < c.progs.length) : asksB c k n = inB n 0 ((c.progs[k].length : Int) - 1) := by
  unfold asksB
  have e : (c.progs[((k : Nat) : Int).toNat]?).getD [] = c.progs[k] := by simp [hk]
  rw [e, inB_true.2 (by omega : (0:Int) ≤ k ∧ (k:Int) ≤ 2)]
  rfl
theorem asks_no {c : Bus} {who : Int} (n : Int) (h : inB who 0 2 = false) : asksB c who n = false := by
  unfold asksB
  rw [h]
  rfl
theorem reqAt_at {c : Bus} {kd : Int} {k i : Nat} (hk : k < c.progs.length) (hi : i < c.progs[k].length) : reqAt c ⟨kd, k, i⟩ = some c.progs[k][i] := by
  unfold reqAt
  simp [hk, hi]

set_option maxRecDepth 100000 in
theorem iAsks_any (c : Bus) (who n : Int) (v0 v1 v2 : Value) (fp2 : List Nat) (hl : c.progs.length = 3) (w : World) (g2 : SlR 1 (slR 7 reqR) w c.progs v2 fp2) :
    Calls Try.prog 89 #[.agg #[v0, v1, v2], .int .i64 who, .int .i64 n] w fun e w' => e = .returned (.bool (asksB c who n)) ∧ Below w.heap.size w w' := by
  have hb := below_alloc w (.cells #[v0, v1, v2] 38)
  have B := Lib.hid hb
  cases q0 : inB who 0 2
  · have Q0 := Lib.hid q0
    clear q0
    go_enter Try.func89, Try.ntmps89
    go_wp2_with fail
    refine (isMaster_any _ _).mono ?_
    rw [Q0.out]
    rintro e w' ⟨rfl, rfl⟩
    go_wp2
    go_ret
    exact ⟨ret_bool (asks_no n Q0.out).symm, B.out⟩
  · have h := inB_true.1 q0
    have Q0 := Lib.hid q0
    obtain ⟨k, rfl⟩ := Int.eq_ofNat_of_zero_le h.1
    have hk : k < c.progs.length := by omega
    obtain ⟨a2, n2, c2, rfl, hn2, _, _, _, r⟩ := (SlR.below (slR_fits reqR_fits) g2 hb).opened
    have hn3 : 3 = n2 := by rw [← hn2.out, hl]
    subst hn3
    obtain ⟨i1, b1, o1, f1, cs, rfl, hb1, _, _, ⟨y, rfl, hy⟩, e1⟩ := r k (by omega)
    have c0 := e1 0 (by simp)
    simp only [Nat.mul_one, Nat.add_zero, List.getElem_cons_zero] at c0
    obtain ⟨a3, n3, c3, rfl, hn3, _, hm3, hcm3, _⟩ := hy.opened
    have HA := Lib.hid (asks_of n hl hk)
    rw [hn3.out] at HA
    have hk3 : (k : Int) < 3 := by omega
    clear q0 h r e1 g2 hb hy
    go_enter Try.func89, Try.ntmps89
    go_wp2_with fail
    refine (isMaster_any _ _).mono ?_
    rw [Q0.out]
    rintro e w' ⟨rfl, rfl⟩
    go_wp2_with fail
    refine (in_any _ _ _ _).mono ?_
    rintro e w' ⟨rfl, rfl⟩
    go_wp2
    go_ret
    exact ⟨ret_bool HA.out.symm, B.out⟩

set_option maxRecDepth 100000 in
theorem iKind_any (c : Bus) (e : Ev) (v0 v1 v2 : Value) (fp2 : List Nat) (hl : c.progs.length = 3) (w : World) (g2 : SlR 1 (slR 7 reqR) w c.progs v2 fp2) :
    Calls Try.prog 74 #[.agg #[v0, v1, v2], .agg #[.int .i64 e.kind, .int .i64 e.who, .int .i64 e.n]] w fun e' w' => e' = .returned (.bool (evOk c e)) ∧ Below w.heap.size w w' := by
  obtain ⟨kd, wh, n⟩ := e
  have hb := below_alloc w (.cells #[v0, v1, v2] 38)
  have hb2 := hb.trans ((below_alloc _ (.cells #[.int .i64 kd, .int .i64 wh, .int .i64 n] 47)).mono hb.size)
  have B := Lib.hid hb2
  have G := Lib.hid (SlR.below (slR_fits reqR_fits) g2 hb2)
  have HL := Lib.hid hl
  have HE := Lib.hid (evOk_asks c ⟨kd, wh, n⟩)
  clear g2 hb hb2 hl
  cases q0 : inB kd 1 3
  all_goals
    have Q0 := Lib.hid q0
    clear q0
    go_enter Try.func74, Try.ntmps74
    go_wp2_with fail
    refine (in_any _ _ _ _).mono ?_
    rw [Q0.out]
    rintro e w' ⟨rfl, rfl⟩
    (try (go_wp2_with fail; refine (iAsks_any c _ _ _ _ _ fp2 HL.out _ G.out).mono ?_; rintro e w' ⟨rfl, b⟩; replace B := Lib.hid (B.out.trans (b.mono B.out.size)); clear b))
    go_wp2
    go_ret
    exact ⟨ret_bool (by rw [HE.out, Q0.out]; simp), B.out⟩

theorem l1In_v {a b c : Int} {x : Bool} (h : inB a b c = x) (w : World) :
    Calls Try.prog 70 #[.int .i64 a, .int .i64 b, .int .i64 c] w fun e w' => e = .returned (.bool x) ∧ w' = w := by
  rw [← h]; exact l1In_q a b c w

set_option maxRecDepth 100000 in
set_option maxHeartbeats 3200000 in
theorem sDoes_any (c : Bus) (e : Ev) (v0 v1 v2 : Value) (fp2 : List Nat) (hl : c.progs.length = 3) (w : World) (g2 : SlR 1 (slR 7 reqR) w c.progs v2 fp2) :
    Calls Try.prog 76 #[.agg #[v0, v1, v2], .agg #[.int .i64 e.kind, .int .i64 e.who, .int .i64 e.n]] w fun e' w' => e' = .returned (.bool (evOk c e)) ∧ Below w.heap.size w w' := by
  obtain ⟨kd, wh, n⟩ := e
  have hb := below_alloc w (.cells #[v0, v1, v2] 38)
  have hb2 := hb.trans ((below_alloc _ (.cells #[.int .i64 kd, .int .i64 wh, .int .i64 n] 47)).mono hb.size)
  have B := Lib.hid hb2
  have HE := Lib.hid (evOk_asks c ⟨kd, wh, n⟩)
  cases q0 : inB kd 1 3
  case' true => cases q1 : inB wh 0 2
  case' true.true =>
    have h := inB_true.1 q1
    obtain ⟨k, rfl⟩ := Int.eq_ofNat_of_zero_le h.1
    have hk : k < c.progs.length := by omega
    obtain ⟨a2, n2, c2, rfl, hn2, _, _, _, r⟩ := (SlR.below (slR_fits reqR_fits) g2 hb2).opened
    have hn3 : 3 = n2 := by rw [← hn2.out, hl]
    subst hn3
    obtain ⟨i1, b1, o1, f1, cs, rfl, hb1, _, _, ⟨y, rfl, hy⟩, e1⟩ := r k (by omega)
    have c0 := e1 0 (by simp)
    simp only [Nat.mul_one, Nat.add_zero, List.getElem_cons_zero] at c0
    obtain ⟨a3, n3, c3, rfl, hn3, _, hm3, hcm3, _⟩ := hy.opened
    have HA := Lib.hid (asks_of n hl hk)
    rw [hn3.out] at HA
    have hk3 : (k : Int) < 3 := by omega
    have hw : IntKind.i64.wrap ((n3 : Int) - 1) = (n3 : Int) - 1 := IntWalk.i64_in _ (by omega)
    clear r e1 hy h
  all_goals
    have Q0 := Lib.hid q0
    (try have Q1 := Lib.hid q1)
    clear hb hb2 g2
    go_enter Try.func76, Try.ntmps76
    go_wp2_with fail
    go_quiet ((go_at_call 70; first | (refine Calls.quiet_of_same (l1In_v (x := true) ?_ _); with_reducible first | exact Q0.out | exact Q1.out) | (refine Calls.quiet_of_same (l1In_v (x := false) ?_ _); with_reducible first | exact Q0.out | exact Q1.out) | exact Calls.quiet_of_same (l1In_q _ _ _ _)))
    go_wp2
    go_ret
    exact ⟨ret_bool (by rw [HE.out, Q0.out]; first | (rw [HA.out]; rfl) | (rw [asks_no n Q1.out]; rfl) | rfl), below_drewN B.out _⟩

theorem apartB_same {c : Bus} {a b : Ev} (h : a.who = b.who) : apartB c a b = false := by unfold apartB; rw [if_pos (.inl h)]
theorem apartB_told {c : Bus} {a b : Ev} (h : a.kind = 3) (h' : b.kind = 3) : apartB c a b = false := by unfold apartB; rw [if_pos (.inr ⟨h, h'⟩)]
theorem apartB_not {c : Bus} {a b : Ev} (h : a.who ≠ b.who) (h1 : ¬ (a.kind = 3 ∧ b.kind = 3)) (h2 : a.kind ≠ 2 ∨ b.kind ≠ 2) : apartB c a b = true := by
  unfold apartB
  rw [if_neg (by rintro (e | e); exact h e; exact h1 e), if_pos h2]
theorem apartB_do {c : Bus} {k i k' i' : Nat} (h : k ≠ k') (hk : k < c.progs.length) (hi : i < c.progs[k].length) (hk' : k' < c.progs.length) (hi' : i' < c.progs[k'].length) : apartB c ⟨2, k, i⟩ ⟨2, k', i'⟩ = !meetB c.progs[k][i] c.progs[k'][i'] := by
  unfold apartB
  rw [reqAt_at hk hi, reqAt_at hk' hi', if_neg (by rintro (e | e); exact h (by have e : (k : Int) = (k' : Int) := e; omega); simp at e), if_neg (by simp)]
  rfl

set_option maxRecDepth 100000 in
set_option maxHeartbeats 3200000 in
theorem sApart_at (c : Bus) (ka kb : Int) (k i k' i' : Nat) (hk : k < c.progs.length) (hi : i < c.progs[k].length) (hk' : k' < c.progs.length) (hi' : i' < c.progs[k'].length) (v0 v1 v2 : Value) (fp2 : List Nat) (hl : c.progs.length = 3) (w : World) (g2 : SlR 1 (slR 7 reqR) w c.progs v2 fp2) :
    Calls Try.prog 77 #[.agg #[v0, v1, v2], .agg #[.int .i64 ka, .int .i64 k, .int .i64 i], .agg #[.int .i64 kb, .int .i64 k', .int .i64 i']] w fun e' w' => e' = .returned (.bool (apartB c ⟨ka, k, i⟩ ⟨kb, k', i'⟩)) ∧ Below w.heap.size w w' := by
  obtain ⟨w0, hw0⟩ : ∃ w0, w0 = ((w.alloc (.cells #[v0, v1, v2] 38)).alloc (.cells #[.int .i64 ka, .int .i64 k, .int .i64 i] 47)).alloc (.cells #[.int .i64 kb, .int .i64 k', .int .i64 i'] 47) := ⟨_, rfl⟩
  have hb0 : Below w.heap.size w w0 := by
    rw [hw0]
    have h1 := below_alloc w (.cells #[v0, v1, v2] 38)
    have h2 := h1.trans ((below_alloc _ (.cells #[.int .i64 ka, .int .i64 k, .int .i64 i] 47)).mono h1.size)
    exact h2.trans ((below_alloc _ _).mono h2.size)
  have A2 : w0.cell? ⟨w.heap.size, 2, none⟩ = some v2 := by rw [hw0]; exact alloc_keep (alloc_keep (alloc1_new _ _ _ 2 rfl) _) _
  have E0 : w0.cell? ⟨w.heap.size + 1, 0, none⟩ = some (.int .i64 ka) := by rw [hw0]; exact alloc_keep (alloc2_new _ _ _ _ _ 0 rfl) _
  have E1 : w0.cell? ⟨w.heap.size + 1, 1, none⟩ = some (.int .i64 k) := by rw [hw0]; exact alloc_keep (alloc2_new _ _ _ _ _ 1 rfl) _
  have E2 : w0.cell? ⟨w.heap.size + 1, 2, none⟩ = some (.int .i64 i) := by rw [hw0]; exact alloc_keep (alloc2_new _ _ _ _ _ 2 rfl) _
  have F0 : w0.cell? ⟨w.heap.size + 1 + 1, 0, none⟩ = some (.int .i64 kb) := by rw [hw0]; exact alloc3_new _ _ _ _ _ _ 0 rfl
  have F1 : w0.cell? ⟨w.heap.size + 1 + 1, 1, none⟩ = some (.int .i64 k') := by rw [hw0]; exact alloc3_new _ _ _ _ _ _ 1 rfl
  have F2 : w0.cell? ⟨w.heap.size + 1 + 1, 2, none⟩ = some (.int .i64 i') := by rw [hw0]; exact alloc3_new _ _ _ _ _ _ 2 rfl
  have B := Lib.hid hb0
  have G := Lib.hid (SlR.below (slR_fits reqR_fits) g2 hb0)
  clear g2 hb0
  by_cases hs : k = k'
  · subst hs
    have HO := Lib.hid (apartB_same (c := c) (a := ⟨ka, k, i⟩) (b := ⟨kb, k, i'⟩) rfl)
    go_enter Try.func77, Try.ntmps77
    go_upto_region 1 with fail
    rw [← hw0]
    clear hw0
    go_wp2
    go_ret
    exact ⟨ret_bool HO.out.symm, B.out⟩
  · have hsn : ((k : Int) == (k' : Int)) = false := by rw [beq_eq_false_iff_ne]; omega
    by_cases h33 : ka = 3 ∧ kb = 3
    · obtain ⟨rfl, rfl⟩ := h33
      have HO := Lib.hid (apartB_told (c := c) (a := ⟨3, k, i⟩) (b := ⟨3, k', i'⟩) rfl rfl)
      go_enter Try.func77, Try.ntmps77
      go_upto_region 1 with fail
      rw [← hw0]
      clear hw0
      go_wp2
      go_ret
      exact ⟨ret_bool HO.out.symm, B.out⟩
    · have h3 : ((ka == 3) = false) ∨ ((ka == 3) = true ∧ (kb == 3) = false) := by
        by_cases e : ka = 3
        · exact .inr ⟨by simp [e], by simpa using fun e' => h33 ⟨e, e'⟩⟩
        · exact .inl (by simpa using e)
      by_cases h22 : ka = 2 ∧ kb = 2
      · obtain ⟨rfl, rfl⟩ := h22
        have HO := Lib.hid (apartB_do hs hk hi hk' hi')
        obtain ⟨a2, n2, c2, rfl, hn2, _, _, _, r⟩ := G.out.opened
        have hn3 : 3 = n2 := by rw [← hn2.out, hl]
        subst hn3
        obtain ⟨i1, b1, o1, f1, cs, rfl, hb1, _, _, ⟨y, rfl, hy⟩, e1⟩ := r k (by omega)
        have c0 := e1 0 (by simp)
        obtain ⟨i2, b2, o2, f2, cs, e2, hb2, _, _, ⟨y', rfl, hy'⟩, e3⟩ := r k' (by omega)
        obtain ⟨rfl, rfl⟩ : b1 = b2 ∧ o1 = o2 := by simpa using e2
        have d0 := e3 0 (by simp)
        simp only [Nat.mul_one, Nat.add_zero, List.getElem_cons_zero] at c0 d0
        obtain ⟨a3, n3, c3, rfl, hn3, _, _, _, r3⟩ := hy.opened
        obtain ⟨a4, n4, c4, rfl, hn4, _, _, _, r4⟩ := hy'.opened
        obtain ⟨j3, b3, o3, f3, cs, rfl, hb3, _, _, ⟨dv, lv, df, lf, rfl, rfl, hd, hlv⟩, e5⟩ := r3 i (by rw [← hn3.out]; exact hi)
        obtain ⟨j4, b4, o4, f4, cs, rfl, hb4, _, _, ⟨dv', lv', df', lf', rfl, rfl, hd', hlv'⟩, e6⟩ := r4 i' (by rw [← hn4.out]; exact hi')
        have x0 := e5 0 (by simp)
        have x1 := e5 1 (by simp)
        have x2 := e5 2 (by simp)
        have x3 := e5 3 (by simp)
        have x4 := e5 4 (by simp)
        have x5 := e5 5 (by simp)
        have x6 := e5 6 (by simp)
        have y0 := e6 0 (by simp)
        have y1 := e6 1 (by simp)
        have y2 := e6 2 (by simp)
        have y3 := e6 3 (by simp)
        have y4 := e6 4 (by simp)
        have y5 := e6 5 (by simp)
        have y6 := e6 6 (by simp)
        simp only [Nat.add_zero, List.getElem_cons_zero, List.getElem_cons_succ] at x0 x1 x2 x3 x4 x5 x6 y0 y1 y2 y3 y4 y5 y6
        have hk3 : (k : Int) < 3 := by omega
        have hk3' : (k' : Int) < 3 := by omega
        have hi3 : (i : Int) < (n3 : Int) := by have := hn3.out; omega
        have hi4 : (i' : Int) < (n4 : Int) := by have := hn4.out; omega
        obtain ⟨ra, hra⟩ : ∃ q, q = c.progs[k][i] := ⟨_, rfl⟩
        obtain ⟨rb, hrb⟩ : ∃ q, q = c.progs[k'][i'] := ⟨_, rfl⟩
        simp only [← hra, ← hrb] at x0 x1 x2 x3 x4 x5 x6 y0 y1 y2 y3 y4 y5 y6 HO
        clear r r3 r4 e1 e2 e3 e5 e6 hy hy' hd hlv hd' hlv' h3 h33 hra hrb j3 j4
        go_enter Try.func77, Try.ntmps77
        go_upto_region 1 with fail
        rw [← hw0]
        clear hw0
        go_wp2_with fail
        go_still_tail 29, (by kernel_rfl)
        change wpList _ _ _ _ _ w0.drew
        replace B := Lib.hid (B.out.trans ((Below.refl _ _).drew))
        generalize w0.drew = wd at *
        go_wp2_with fail
        refine (sMeet_any ra rb _ _ _ _ _).mono ?_
        rintro e w5 ⟨rfl, b⟩
        replace B := Lib.hid (B.out.trans (b.mono B.out.size))
        clear b
        go_wp2
        go_ret
        exact ⟨ret_bool HO.out.symm, B.out⟩
      · have h2 : ka ≠ 2 ∨ kb ≠ 2 := by
          by_cases e : ka = 2
          · exact .inr fun e' => h22 ⟨e, e'⟩
          · exact .inl e
        have HO := Lib.hid (apartB_not (c := c) (a := ⟨ka, k, i⟩) (b := ⟨kb, k', i'⟩) (by show (k : Int) ≠ (k' : Int); omega) h33 h2)
        have h2' : ((ka != 2) = true) ∨ ((ka != 2) = false ∧ (kb != 2) = true) := by
          by_cases e : ka = 2
          · exact .inr ⟨by simp [e], by simpa using fun e' => h22 ⟨e, e'⟩⟩
          · exact .inl (by simpa using e)
        clear h22 h33 h2
        rcases h3 with h3 | ⟨h3, h3'⟩
        all_goals rcases h2' with h2 | ⟨h2, h2'⟩
        all_goals
          go_enter Try.func77, Try.ntmps77
          go_upto_region 1 with fail
          rw [← hw0]
          clear hw0
          go_wp2_with fail
          go_quiet (fail)
          go_wp2
          go_ret
          exact ⟨ret_bool HO.out.symm, below_drewN B.out _⟩

end Go.Proofs.Ytmcjklicepaiaaa
