/-
  Whether nobody else asks of a store of which one asks: the program's BusApart.
-/
import Derived.Test.YtmmojgopeaelcaaBApart
namespace Go.Proofs.Ytmmojgopeaelcaa
set_option linter.unusedVariables false
set_option linter.unusedSimpArgs false
open Go.RowKit Go.ChangeShapes

/-- which stores one asks of, as four marks in a block -/
def OwnB (m : List MR) (P : List Req) (w : World) (q : Nat) : Prop := ∀ s : Nat, s < 4 → w.cell? ⟨q, s, none⟩ = some (.bool (P.any fun x => slaveOf m x == (s : Int)))

theorem own_any (q cb : Nat) (m : List MR) (P : List Req) (mv : Value) (mf : List Nat) (hm : mapOk m = true) (r : Req) (v0 v1 : Value) (w : World) (hown : OwnB m P w q) (hc : w.cell? ⟨cb, 0, none⟩ = some mv) (g : SlR 4 mrR w m mv mf) :
    Calls Try.prog 79 #[.agg #[.int .i64 r.id, .int .i64 r.kind, .int .i64 r.addr, .int .i64 r.many, .bool r.wrap, v0, v1], .pointer (some ⟨q, 0, none⟩), .pointer (some ⟨cb, 0, none⟩)] w fun e w' => e = .returned (.bool (asksOf m P r)) ∧ Below w.heap.size w w' := by
  obtain ⟨a0, n0, c0, rfl⟩ := g.form
  have hb := below_alloc w (.cells #[.int .i64 r.id, .int .i64 r.kind, .int .i64 r.addr, .int .i64 r.many, .bool r.wrap, v0, v1] 91)
  have G := Lib.hid (SlR.below mrR_fits g hb)
  have C := keep_cell hb hc
  have B := Lib.hid hb
  obtain ⟨s, hs⟩ := Int.eq_ofNat_of_zero_le (slaveOf_in (r := r) hm).1
  have hs4 : s < 4 := by have := (slaveOf_in (r := r) hm).2; omega
  have hs4' : (s : Int) < 4 := by omega
  have O := keep_cell hb (hown s hs4)
  have HS := Lib.hid hs
  have HF : Hid (asksOf m P r = P.any fun x => slaveOf m x == (s : Int)) := Lib.hid (by unfold asksOf; rw [hs])
  obtain ⟨bb, hbb⟩ : ∃ z, (P.any fun x => slaveOf m x == (s : Int)) = z := ⟨_, rfl⟩
  rw [hbb] at O HF
  clear hb g hc hown hs hbb
  go_enter Try.func79, Try.ntmps79
  go_wp2_with fail
  refine (slave_any _ m mf r _ _ _ G.out).mono ?_
  rw [HS.out]
  rintro e w1 ⟨rfl, b⟩
  replace O := keep_cell b O
  replace B := Lib.hid (B.out.trans (b.mono B.out.size))
  clear b C
  go_wp2
  go_ret
  exact ⟨ret_bool HF.out.symm, B.out⟩

theorem OwnB.below {m : List MR} {P : List Req} {w w' : World} {q : Nat} (h : OwnB m P w q) (hb : Below w.heap.size w w') : OwnB m P w' q := fun s hs => keep_cell hb (h s hs)
theorem OwnB.mark {m : List MR} {P : List Req} {w : World} {q t s : Nat} (h : OwnB m (P.take t) w q) (ht : t < P.length) (hs : slaveOf m P[t] = (s : Int)) (hs4 : s < 4) : OwnB m (P.take (t + 1)) (w.setCell ⟨q, s, none⟩ (.bool true)) q := by
  intro s' hs'
  rw [List.take_succ_eq_append_getElem ht, List.any_append]
  by_cases e : s = s'
  · subst e
    rw [World.cell?_setCell_same _ _ _ (h s hs4)]
    simp [hs]
  · rw [World.cell?_setCell_other _ _ _ _ (fun e' => e (by injection e'))]
    rw [h s' hs']
    have : (slaveOf m P[t] == (s' : Int)) = false := by rw [hs]; simp; omega
    simp [this]

theorem indexOwn (q cb : Nat) (m : List MR) (P : List Req) (mv : Value) (mf : List Nat) (hm : mapOk m = true) (v : Value) (l : List Req) (fp : List Nat) (w : World) (hcap0 : OwnB m P w q) (hcap1 : w.cell? ⟨cb, 0, none⟩ = some mv) (hcap2 : SlR 4 mrR w m mv mf) (g : SlR 7 reqR w l v fp) :
    Calls Try.prog 141 #[v, .func (.func 79) #[] #[.pointer (some ⟨q, 0, none⟩), .pointer (some ⟨cb, 0, none⟩)]] w fun e w' => e = .returned (.int .i64 (idxOf (asksOf m P) l)) ∧ Below w.heap.size w w' := by
  obtain ⟨a, n, c, rfl, hn, hcap, hmax, hcm, r⟩ := g.opened
  have G := Lib.hid g
  clear g
  go_enter Try.func141, Try.ntmps141
  go_wp2_with fail
  go_loopw [8] (fun i wr => ∃ k : Nat, k ≤ n ∧ i = .int .i64 k ∧ (∀ j (h : j < l.length), j < k → (asksOf m P) l[j] = false) ∧ Below w.heap.size w wr) (fun i _ => n - (intOf i).toNat)
  case atStart => exact ⟨0, Nat.zero_le _, rfl, fun j _ h => absurd h (Nat.not_lt_zero j), Below.refl _ _⟩
  case round =>
    obtain ⟨k, hk, rfl, hp, hb⟩ := hrel
    have HP := Lib.hid hp
    have HB := Lib.hid hb
    clear hp
    by_cases hlt : k < n
    · obtain ⟨i1, b1, o1, f1, cs, rfl, hb1, hbf, hff, hR, e1⟩ := r k hlt
      have HR := Lib.hid hR
      obtain ⟨dv, lv, df, lf, rfl, rfl, hd, hl⟩ := hR
      have c0 := (hb.cell (p := ⟨b1, o1 + k * 7 + 0, none⟩) hb1).trans (e1 0 (by simp))
      have c1 := (hb.cell (p := ⟨b1, o1 + k * 7 + 1, none⟩) hb1).trans (e1 1 (by simp))
      have c2 := (hb.cell (p := ⟨b1, o1 + k * 7 + 2, none⟩) hb1).trans (e1 2 (by simp))
      have c3 := (hb.cell (p := ⟨b1, o1 + k * 7 + 3, none⟩) hb1).trans (e1 3 (by simp))
      have c4 := (hb.cell (p := ⟨b1, o1 + k * 7 + 4, none⟩) hb1).trans (e1 4 (by simp))
      have c5 := (hb.cell (p := ⟨b1, o1 + k * 7 + 5, none⟩) hb1).trans (e1 5 (by simp))
      have c6 := (hb.cell (p := ⟨b1, o1 + k * 7 + 6, none⟩) hb1).trans (e1 6 (by simp))
      simp only [Nat.add_zero, List.getElem_cons_zero, List.getElem_cons_succ] at c0 c1 c2 c3 c4 c5 c6
      clear r e1 hb hbf hff
      have hk0 := Lib.hid (OwnB.below hcap0 HB.out)
      have hk1 := keep_cell HB.out hcap1
      have hk2 := Lib.hid (SlR.below mrR_fits hcap2 HB.out)
      go_wp2_with fail
      refine (own_any q cb m P mv mf hm l[k] _ _ _ hk0.out hk1 hk2.out).mono ?_
      rintro e w2 ⟨rfl, b2⟩
      have HB2 := Lib.hid (HB.out.trans (b2.mono HB.out.size))
      clear b2 c0 c1 c2 c3 c4 c5 c6
      cases hq : (asksOf m P) l[k]
      · have HQ := Lib.hid hq
        clear hq
        go_wp2
        go_roundw
        case rel => exact ⟨k + 1, by omega, by go_num, fun j h hj => (by
          by_cases e : j = k
          · subst e; exact HQ.out
          · exact HP.out j h (by omega)), HB2.out⟩
        case measure => simp [intOf]; omega
      · have HQ := Lib.hid hq
        clear hq
        go_wp2
        go_ret
        exact ⟨ret_int (idxOf_hit i1 HQ.out (fun j h hj => HP.out j h hj)).symm, HB2.out⟩
    · clear r hb
      go_wp2
      go_ret
      exact ⟨ret_int (idxOf_none (fun j h => HP.out j h (by rw [hn.out] at h; omega))).symm, HB.out⟩

theorem containsOwn (q cb : Nat) (m : List MR) (P : List Req) (mv : Value) (mf : List Nat) (hm : mapOk m = true) (v : Value) (l : List Req) (fp : List Nat) (w : World) (hcap0 : OwnB m P w q) (hcap1 : w.cell? ⟨cb, 0, none⟩ = some mv) (hcap2 : SlR 4 mrR w m mv mf) (g : SlR 7 reqR w l v fp) :
    Calls Try.prog 78 #[v, .func (.func 79) #[] #[.pointer (some ⟨q, 0, none⟩), .pointer (some ⟨cb, 0, none⟩)]] w fun e w' => e = .returned (.bool (l.any (asksOf m P))) ∧ Below w.heap.size w w' := by
  go_enter Try.func78, Try.ntmps78
  go_wp2_with fail
  refine (indexOwn q cb m P mv mf hm v l fp _ hcap0 hcap1 hcap2 g).mono ?_
  rintro e w' ⟨rfl, hb⟩
  have HB := Lib.hid hb
  clear hb
  cases hq : decide (0 ≤ idxOf (asksOf m P) l)
  all_goals
    go_wp2
    go_ret
    exact ⟨ret_bool (by rw [← idxOf_any, hq]), HB.out⟩


set_option maxRecDepth 100000 in
set_option maxHeartbeats 6400000 in
theorem iBusApart_any (c : Bus) (v0 v1 v2 : Value) (fp0 fp1 fp2 : List Nat) (who : Int) (w : World) (g0 : SlR 4 mrR w c.map v0 fp0) (g1 : SlR 1 intR w c.lat v1 fp1) (g2 : SlR 1 (slR 7 reqR) w c.progs v2 fp2) :
    Calls Try.prog 18 #[.agg #[v0, v1, v2], .int .i64 who] w fun e w' => e = .returned (.bool (busApart c who)) ∧ Below w.heap.size w w' := by
  obtain ⟨a0, n0, c0, rfl⟩ := g0.form
  have hb := below_alloc w (.cells #[.slice a0 n0 c0, v1, v2] 32)
  have G0 := Lib.hid (SlR.below mrR_fits g0 hb)
  have G1 := Lib.hid (SlR.below intR_fits g1 hb)
  have G2 := Lib.hid (SlR.below (slR_fits reqR_fits) g2 hb)
  have B := Lib.hid hb
  clear hb g0 g1 g2
  cases q0 : busOk c
  · have Q0 := Lib.hid q0
    clear q0
    go_enter Try.func18, Try.ntmps18
    go_wp2_with fail
    refine (iBusOk_any c _ _ _ fp0 fp1 fp2 _ G0.out G1.out G2.out).mono ?_
    rw [Q0.out]
    rintro e w1 ⟨rfl, b⟩
    replace B := Lib.hid (B.out.trans (b.mono B.out.size))
    clear b
    go_wp2
    go_ret
    exact ⟨ret_bool (by unfold busApart; rw [Q0.out]; rfl), B.out⟩
  cases q1 : inB who 0 2
  · have Q0 := Lib.hid q0
    have Q1 := Lib.hid q1
    clear q0 q1
    go_enter Try.func18, Try.ntmps18
    go_wp2_with fail
    refine (iBusOk_any c _ _ _ fp0 fp1 fp2 _ G0.out G1.out G2.out).mono ?_
    rw [Q0.out]
    rintro e w1 ⟨rfl, b⟩
    replace B := Lib.hid (B.out.trans (b.mono B.out.size))
    clear b
    go_wp2_with fail
    refine (isMaster_any _ _).mono ?_
    rw [Q1.out]
    rintro e w2 ⟨rfl, rfl⟩
    go_wp2
    go_ret
    exact ⟨ret_bool (by unfold busApart; rw [Q0.out, Q1.out]; rfl), B.out⟩
  obtain ⟨k0, rfl⟩ := Int.eq_ofNat_of_zero_le (inB_true.1 q1).1
  have hk03 : k0 < 3 := by have := (inB_true.1 q1).2; omega
  have HL := Lib.hid (busOk_progs q0)
  have HM := Lib.hid (busOk_map q0)
  have HP0 : Hid (progAt c k0 = c.progs[k0]'(by rw [HL.out]; exact hk03)) := Lib.hid (progAt_at _)
  have HF : Hid (busApart c k0 = apartAll c k0) := Lib.hid (by unfold busApart; rw [q0, q1]; rfl)
  have Q0 := Lib.hid q0
  have Q1 := Lib.hid q1
  clear q0 q1
  go_enter Try.func18, Try.ntmps18
  go_wp2_with fail
  refine (iBusOk_any c _ _ _ fp0 fp1 fp2 _ G0.out G1.out G2.out).mono ?_
  rw [Q0.out]
  rintro e w1 ⟨rfl, b⟩
  have X0 : w1.cell? ⟨w.heap.size, 0, none⟩ = some (.slice a0 n0 c0) := keep_cell b (alloc1_new w #[.slice a0 n0 c0, v1, v2] 32 0 rfl)
  have X2 : w1.cell? ⟨w.heap.size, 2, none⟩ = some v2 := keep_cell b (alloc1_new w #[.slice a0 n0 c0, v1, v2] 32 2 rfl)
  replace G0 := Lib.hid (SlR.below mrR_fits G0.out b)
  replace G2 := Lib.hid (SlR.below (slR_fits reqR_fits) G2.out b)
  replace B := Lib.hid (B.out.trans (b.mono B.out.size))
  clear b G1
  obtain ⟨a2, n2, c2, rfl, hn2, _, _, _, r⟩ := G2.out.opened
  have hn3 : 3 = n2 := by rw [← hn2.out, HL.out]
  subst hn3
  obtain ⟨i0, b0, o0, f0, cs, rfl, hb0, _, _, ⟨y0, rfl, hy0⟩, e0⟩ := r k0 (by omega)
  have d0 := e0 0 (by simp)
  simp only [Nat.mul_one, Nat.add_zero, List.getElem_cons_zero] at d0
  obtain ⟨P, hP⟩ : ∃ z, progAt c k0 = z := ⟨_, rfl⟩
  have hy1 : SlR 7 reqR w1 P y0 f0 := by rw [← hP, HP0.out]; exact hy0
  clear hy0 HP0
  obtain ⟨a3, n3, c3, rfl, hn3, _, hmx3, _, r3⟩ := hy1.opened
  have hk03' : (k0 : Int) < 3 := by omega
  have HP := Lib.hid hP
  clear e0 hy1 hP
  go_wp2_with fail
  refine (isMaster_any _ _).mono ?_
  rw [Q1.out]
  rintro e w2 ⟨rfl, rfl⟩
  have ba := below_alloc w1 (.cells #[.bool false, .bool false, .bool false, .bool false] 115)
  have x0 := keep_cell ba X0
  have x2 := keep_cell ba X2
  have z0 := keep_cell ba d0
  have BA := Lib.hid ba
  have O0 : Hid (OwnB c.map (P.take 0) (w1.alloc (.cells #[.bool false, .bool false, .bool false, .bool false] 115)) w1.heap.size) := Lib.hid (fun s hs => by
    have h4 : s = 0 ∨ s = 1 ∨ s = 2 ∨ s = 3 := by omega
    rcases h4 with rfl | rfl | rfl | rfl <;> exact alloc1_new _ _ _ _ rfl)
  have F0 : Hid (∀ s : Nat, (w1.alloc (.cells #[.bool false, .bool false, .bool false, .bool false] 115)).frozen? ⟨w1.heap.size, s, none⟩ = false) := Lib.hid (fun s => World.frozen?_alloc_at _ _ _ _ rfl)
  have hzq : w1.heap.size < (w1.alloc (.cells #[.bool false, .bool false, .bool false, .bool false] 115)).heap.size := by simp
  obtain ⟨q, hq⟩ : ∃ q, q = w1.heap.size := ⟨_, rfl⟩
  have HQ := Lib.hid hq
  have HZ := Lib.hid hzq
  clear ba hzq
  go_wp2_with fail
  go_loopw [24] (fun i wr => ∃ t : Nat, t ≤ n3 ∧ i = .int .i64 t ∧ OwnB c.map (P.take t) wr q ∧ (∀ s : Nat, wr.frozen? ⟨q, s, none⟩ = false) ∧ q < wr.heap.size ∧ Below w1.heap.size w1 wr) (fun i _ => n3 - (intOf i).toNat)
  case atStart =>
    subst hq
    exact ⟨0, Nat.zero_le _, rfl, O0.out, F0.out, HZ.out, BA.out⟩
  case round =>
    clear O0 F0 HZ
    obtain ⟨t, ht, rfl, ho, hf, hqz, hbel⟩ := hrel
    have HO := Lib.hid ho
    have HFr := Lib.hid hf
    have HB := Lib.hid hbel
    by_cases htt : t < n3
    · obtain ⟨i5, b5, o5, f5, cs, rfl, hb5, _, _, ⟨dv5, lv5, df5, lf5, rfl, rfl, hd5, hl5⟩, e5⟩ := r3 t htt
      have t0 := keep_cell hbel (e5 0 (by simp))
      have t1 := keep_cell hbel (e5 1 (by simp))
      have t2 := keep_cell hbel (e5 2 (by simp))
      have t3 := keep_cell hbel (e5 3 (by simp))
      have t4 := keep_cell hbel (e5 4 (by simp))
      have t5 := keep_cell hbel (e5 5 (by simp))
      have t6 := keep_cell hbel (e5 6 (by simp))
      simp only [Nat.add_zero, List.getElem_cons_zero, List.getElem_cons_succ] at t0 t1 t2 t3 t4 t5 t6
      have xx := keep_cell hbel X0
      have zx := block_of_cell xx
      obtain ⟨da5, dn5, dc5, rfl⟩ := hd5.form
      obtain ⟨la5, ln5, lc5, rfl⟩ := hl5.form
      have bb := below_alloc wr (.cells #[.int .i64 P[t].id, .int .i64 P[t].kind, .int .i64 P[t].addr, .int .i64 P[t].many, .bool P[t].wrap, .slice da5 dn5 dc5, .slice la5 ln5 lc5] 91)
      have BB := Lib.hid bb
      have M0 := Lib.hid (SlR.below mrR_fits (SlR.below mrR_fits G0.out hbel) bb)
      obtain ⟨s, hs⟩ := Int.eq_ofNat_of_zero_le (slaveOf_in (r := P[t]) HM.out).1
      have hs4 : s < 4 := by have := (slaveOf_in (r := P[t]) HM.out).2; omega
      have hs4' : (s : Int) < 4 := by omega
      have HS := Lib.hid hs
      clear hbel ho hf bb hd5 hl5 e5 r3 hs x0 x2 z0
      go_wp2_with fail
      refine (slave_any _ c.map fp0 P[t] _ _ _ M0.out).mono ?_
      rw [HS.out]
      rintro e w3 ⟨rfl, b⟩
      have b3 := BB.out.trans (b.mono BB.out.size)
      have o3 := OwnB.below HO.out b3
      have os := o3 s hs4
      have fs := keep_free b3 hqz (HFr.out s)
      have O3 := Lib.hid (o3.mark i5 HS.out hs4)
      have F3 : Hid (∀ s' : Nat, (w3.setCell ⟨q, s, none⟩ (.bool true)).frozen? ⟨q, s', none⟩ = false) := Lib.hid (fun s' => by rw [World.frozen?_setCell]; exact keep_free b3 hqz (HFr.out s'))
      have Z3 : q < w3.heap.size := Nat.lt_of_lt_of_le hqz b3.size
      have HB3 := Lib.hid (HB.out.trans (b3.mono HB.out.size))
      obtain ⟨ob, hob⟩ : ∃ z, (P.take t).any (fun x => slaveOf c.map x == (s : Int)) = z := ⟨_, rfl⟩
      rw [hob] at os
      clear b b3 o3 t0 t1 t2 t3 t4 t5 t6 xx zx hob
      subst hq
      go_wp2
      go_roundw
      case rel => exact ⟨t + 1, by omega, by go_num, O3.out, F3.out, by simpa using Z3, HB3.out.setCell (p := ⟨w1.heap.size, s, none⟩) (Nat.le_refl _) _⟩
      case measure => simp [intOf]; omega
    · subst hq
      obtain rfl : t = n3 := by omega
      have hall : P.take t = P := List.take_of_length_le (by rw [hn3.out]; exact Nat.le_refl _)
      rw [hall] at ho
      have HO := Lib.hid ho
      have x0' := keep_cell hbel X0
      have x2' := keep_cell hbel X2
      have G0' := Lib.hid (SlR.below mrR_fits G0.out hbel)
      have rr := (SlR.below (slR_fits reqR_fits) G2.out hbel).opened
      clear r r3 x0 x2 z0 X0 X2 d0 G0 G2 BA hf HO
      have HO := Lib.hid ho
      have HB1 := Lib.hid hbel
      clear ho hbel
      obtain ⟨a2, n2, c2', e2, hn2', _, _, _, r⟩ := rr
      simp only [Value.slice.injEq] at e2
      obtain ⟨rfl, rfl, rfl⟩ := e2
      go_wp2_with fail
      obtain ⟨w4, hw4⟩ : ∃ z, z = wr := ⟨_, rfl⟩
      rw [← hw4] at x0' x2' G0' r HO HB1 hqz ⊢
      clear hw4
      go_loopw [37] (fun i wr => ∃ k : Nat, k ≤ 3 ∧ i = .int .i64 k ∧ (∀ j, j < k → j ≠ k0 → (progAt c j).any (asksOf c.map P) = false) ∧ Below w4.heap.size w4 wr) (fun i _ => 3 - (intOf i).toNat)
      case atStart => exact ⟨0, Nat.zero_le _, rfl, fun j h => absurd h (Nat.not_lt_zero j), Below.refl _ _⟩
      case round =>
        obtain ⟨k, hk, rfl, hp, hb4⟩ := hrel
        have HPr := Lib.hid hp
        have HB := Lib.hid hb4
        by_cases hlt : k < 3
        · have hlt' : (k : Int) < 3 := by omega
          obtain ⟨i1, b1, o1, f1, cs, ea, hb1, _, _, ⟨y1, rfl, hy1⟩, e1⟩ := r k hlt
          simp only [Option.some.injEq, Addr.mk.injEq, and_true] at ea
          obtain ⟨rfl, rfl⟩ := ea
          have d1 := keep_cell hb4 (e1 0 (by simp))
          simp only [Nat.mul_one, Nat.add_zero, List.getElem_cons_zero] at d1
          obtain ⟨a4, n4, c4, rfl⟩ := hy1.form
          have G4 := Lib.hid (SlR.below reqR_fits hy1 hb4)
          have HP1 : Hid (progAt c k = c.progs[k]) := Lib.hid (progAt_at i1)
          have xx := keep_cell hb4 x0'
          have M0 := Lib.hid (SlR.below mrR_fits G0'.out hb4)
          have O4 := Lib.hid (OwnB.below HO.out hb4)
          by_cases hek : k = k0
          · subst hek
            have hne : ((k : Int) != (k : Int)) = false := by simp
            clear r e1 hy1 hb4 hp
            go_wp2
            go_roundw
            case rel => exact ⟨k + 1, by omega, by go_num, fun j h hn => HPr.out j (by omega) hn, HB.out⟩
            case measure => simp [intOf]; omega
          · have hne : ((k : Int) != (k0 : Int)) = true := by simp; omega
            clear r e1 hy1 hb4 hp
            obtain ⟨bb, hbb⟩ : ∃ z, c.progs[k].any (asksOf c.map P) = z := ⟨_, rfl⟩
            have HBB := Lib.hid hbb
            clear hbb
            cases bb
            all_goals
              go_wp2_with fail
              refine (containsOwn w1.heap.size w.heap.size c.map P _ fp0 HM.out _ c.progs[k] f1 _ O4.out xx M0.out G4.out).mono ?_
              rw [HBB.out]
              rintro e w5 ⟨rfl, b⟩
              have HB5 := Lib.hid (HB.out.trans (b.mono HB.out.size))
              clear b
              go_wp2
            · go_roundw
              case rel => exact ⟨k + 1, by omega, by go_num, fun j h hn => (by
                by_cases e : j = k
                · subst e; rw [HP1.out]; exact HBB.out
                · exact HPr.out j (by omega) hn), HB5.out⟩
              case measure => simp [intOf]; omega
            · go_ret
              exact ⟨ret_bool (by rw [HF.out]; exact (apartAll_no hlt hek (by rw [HP.out, HP1.out]; exact HBB.out)).symm), B.out.trans ((HB1.out.trans (HB5.out.mono HB1.out.size)).mono B.out.size)⟩
        · clear r hb4 hp
          go_wp2
          go_ret
          exact ⟨ret_bool (by rw [HF.out]; exact (apartAll_yes fun t h hn => (by rw [HP.out]; exact HPr.out t (by omega) hn)).symm), B.out.trans ((HB1.out.trans (HB.out.mono HB1.out.size)).mono B.out.size)⟩

end Go.Proofs.Ytmmojgopeaelcaa
