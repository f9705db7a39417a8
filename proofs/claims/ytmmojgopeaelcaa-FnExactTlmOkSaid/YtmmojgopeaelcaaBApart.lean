/-
  Whether nobody else asks of a store of which one asks: the plain law; the reference's BusApart.
-/
import Derived.Test.YtmmojgopeaelcaaBusOk
import Derived.Test.YtmmojgopeaelcaaSlave
import Derived.Test.YtmmojgopeaelcaaMeet
import Derived.Test.YtmmojgopeaelcaaApart
import Derived.Test.YtmmojgopeaelcaaFacts
import Derived.Test.YtmmojgopeaelcaaRegion3
import Derived.Test.YtmmojgopeaelcaaDBox
import Derived.StillTailTactics
namespace Go.Proofs.Ytmmojgopeaelcaa
set_option linter.unusedVariables false
set_option linter.unusedSimpArgs false
open Go.RowKit Go.ChangeShapes

/-- what one asks -/
def progAt (c : Bus) (k : Nat) : List Req := (c.progs[k]?).getD []
theorem progAt_at {c : Bus} {k : Nat} (h : k < c.progs.length) : progAt c k = c.progs[k] := by unfold progAt; simp [h]
/-- something asks of a store of which one of the list asks -/
def asksOf (m : List MR) (P : List Req) (r : Req) : Bool := P.any fun q => slaveOf m q == slaveOf m r
theorem asksOf_no {m : List MR} {P : List Req} {r : Req} (h : ∀ i (hi : i < P.length), slaveOf m r ≠ slaveOf m P[i]) : asksOf m P r = false := by
  unfold asksOf
  rw [List.any_eq_false]
  intro q hq
  obtain ⟨i, hi, rfl⟩ := List.mem_iff_getElem.1 hq
  have := h i hi
  simp
  exact fun e => this e.symm
theorem asksOf_yes {m : List MR} {P : List Req} {r : Req} {i : Nat} (hi : i < P.length) (h : slaveOf m r = slaveOf m P[i]) : asksOf m P r = true := by
  unfold asksOf
  rw [List.any_eq_true]
  exact ⟨P[i], List.getElem_mem hi, by simp [h]⟩
/-- nobody else asks of a store of which one asks -/
def apartAll (c : Bus) (k0 : Nat) : Bool := (List.range 3).all fun k => k == k0 || !(progAt c k).any (asksOf c.map (progAt c k0))
def busApart (c : Bus) (who : Int) : Bool := busOk c && (inB who 0 2 && apartAll c who.toNat)
theorem apartAll_yes {c : Bus} {k0 : Nat} (h : ∀ k, k < 3 → k ≠ k0 → (progAt c k).any (asksOf c.map (progAt c k0)) = false) : apartAll c k0 = true := by
  unfold apartAll
  rw [List.all_eq_true]
  intro k hk
  rw [List.mem_range] at hk
  by_cases e : k = k0
  · simp [e]
  · rw [h k hk e]; simp
theorem apartAll_no {c : Bus} {k0 k : Nat} (hk : k < 3) (hne : k ≠ k0) (h : (progAt c k).any (asksOf c.map (progAt c k0)) = true) : apartAll c k0 = false := by
  unfold apartAll
  rw [List.all_eq_false]
  exact ⟨k, List.mem_range.2 hk, by rw [h]; simp [hne]⟩

theorem busOk_map {c : Bus} (h : busOk c = true) : mapOk c.map = true := by
  unfold busOk at h
  simp only [Bool.and_eq_true] at h
  exact h.1
theorem busOk_req {c : Bus} (h : busOk c = true) {k i : Nat} (hk : k < c.progs.length) (hi : i < c.progs[k].length) : reqOk c.progs[k][i] = true := by
  unfold busOk at h
  simp only [Bool.and_eq_true, List.all_eq_true] at h
  have h1 := h.2.2.2.2 _ (List.getElem_mem hk)
  unfold progOk at h1
  simp only [Bool.and_eq_true, List.all_eq_true] at h1
  exact h1.2 _ (List.getElem_mem hi)
theorem busOk_len {c : Bus} (h : busOk c = true) {k : Nat} (hk : k < c.progs.length) : c.progs[k].length ≤ 12 := by
  unfold busOk at h
  simp only [Bool.and_eq_true, List.all_eq_true] at h
  have h1 := h.2.2.2.2 _ (List.getElem_mem hk)
  unfold progOk at h1
  simp only [Bool.and_eq_true, decide_eq_true_eq] at h1
  exact h1.1
theorem slaveOf_in {m : List MR} {r : Req} (h : mapOk m = true) : 0 ≤ slaveOf m r ∧ slaveOf m r ≤ 3 := by
  unfold slaveOf
  split
  · rename_i hw
    have hk := wholeIx_hi hw
    unfold mapOk at h
    simp only [Bool.and_eq_true, decide_eq_true_eq] at h
    have h1 := h.2 _ hk
    unfold rowOk at h1
    simp only [Bool.and_eq_true] at h1
    have := inB_true.1 h1.2.2.1
    omega
  · omega

theorem sReqSlave_ok (v : Value) (l : List MR) (fp : List Nat) (r : Req) (v0 v1 : Value) (fp0 fp1 : List Nat) (hm : mapOk l = true) (hr : reqOk r = true) (w : World) (g : SlR 4 mrR w l v fp) (g0 : SlR 1 intR w r.data v0 fp0) (g1 : SlR 1 intR w r.lanes v1 fp1) :
    Calls Try.prog 63 #[v, .agg #[.int .i64 r.id, .int .i64 r.kind, .int .i64 r.addr, .int .i64 r.many, .bool r.wrap, v0, v1]] w fun e w' => e = .returned (.int .i64 (slaveOf l r)) ∧ Below w.heap.size w w' := by
  have := sReqSlave_any v l fp r v0 v1 fp0 fp1 w g g0 g1
  unfold reqSlave at this
  rw [hm, hr] at this
  exact this

set_option maxRecDepth 100000 in
set_option maxHeartbeats 6400000 in
theorem sBusApart_any (c : Bus) (v0 v1 v2 : Value) (fp0 fp1 fp2 : List Nat) (who : Int) (w : World) (g0 : SlR 4 mrR w c.map v0 fp0) (g1 : SlR 1 intR w c.lat v1 fp1) (g2 : SlR 1 (slR 7 reqR) w c.progs v2 fp2) :
    Calls Try.prog 16 #[.agg #[v0, v1, v2], .int .i64 who] w fun e w' => e = .returned (.bool (busApart c who)) ∧ Below w.heap.size w w' := by
  obtain ⟨a0, n0, c0, rfl⟩ := g0.form
  have hb := below_alloc w (.cells #[.slice a0 n0 c0, v1, v2] 32)
  have G0 := Lib.hid (SlR.below mrR_fits g0 hb)
  have G1 := Lib.hid (SlR.below intR_fits g1 hb)
  have G2 := Lib.hid (SlR.below (slR_fits reqR_fits) g2 hb)
  have B := Lib.hid hb
  clear hb g0 g1 g2
  cases q0 : busOk c
  · have Q0 := Lib.hid q0
    clear q0
    go_enter Try.func16, Try.ntmps16
    go_wp2_with fail
    refine (sBusOk_any c _ _ _ fp0 fp1 fp2 _ G0.out G1.out G2.out).mono ?_
    rw [Q0.out]
    rintro e w1 ⟨rfl, b⟩
    replace B := Lib.hid (B.out.trans (b.mono B.out.size))
    clear b
    go_wp2
    go_ret
    exact ⟨ret_bool (by unfold busApart; rw [Q0.out]; rfl), B.out⟩
  cases q1 : inB who 0 2
  · have Q0 := Lib.hid q0
    have Q1 := Lib.hid q1
    clear q0 q1
    go_enter Try.func16, Try.ntmps16
    go_wp2_with fail
    refine (sBusOk_any c _ _ _ fp0 fp1 fp2 _ G0.out G1.out G2.out).mono ?_
    rw [Q0.out]
    rintro e w1 ⟨rfl, b⟩
    replace B := Lib.hid (B.out.trans (b.mono B.out.size))
    clear b
    go_wp2_with fail
    refine (l1In_v Q1.out _).mono ?_
    rintro e w2 ⟨rfl, rfl⟩
    go_wp2
    go_ret
    exact ⟨ret_bool (by unfold busApart; rw [Q0.out, Q1.out]; rfl), B.out⟩
  obtain ⟨k0, rfl⟩ := Int.eq_ofNat_of_zero_le (inB_true.1 q1).1
  have hk03 : k0 < 3 := by have := (inB_true.1 q1).2; omega
  have HL := Lib.hid (busOk_progs q0)
  have HM := Lib.hid (busOk_map q0)
  have HR := Lib.hid (fun k i hk hi => busOk_req q0 (k := k) (i := i) hk hi)
  have HP0 : Hid (progAt c k0 = c.progs[k0]'(by rw [HL.out]; exact hk03)) := Lib.hid (progAt_at _)
  have HF : Hid (busApart c k0 = apartAll c k0) := Lib.hid (by unfold busApart; rw [q0, q1]; rfl)
  have Q0 := Lib.hid q0
  have Q1 := Lib.hid q1
  clear q0 q1
  go_enter Try.func16, Try.ntmps16
  go_wp2_with fail
  refine (sBusOk_any c _ _ _ fp0 fp1 fp2 _ G0.out G1.out G2.out).mono ?_
  rw [Q0.out]
  rintro e w1 ⟨rfl, b⟩
  have X0 := keep_cell b (alloc1_new w #[.slice a0 n0 c0, v1, v2] 32 0 rfl)
  have X2 := keep_cell b (alloc1_new w #[.slice a0 n0 c0, v1, v2] 32 2 rfl)
  replace G0 := Lib.hid (SlR.below mrR_fits G0.out b)
  replace G2 := Lib.hid (SlR.below (slR_fits reqR_fits) G2.out b)
  replace B := Lib.hid (B.out.trans (b.mono B.out.size))
  clear b G1
  obtain ⟨a2, n2, c2, rfl, hn2, _, _, _, r⟩ := G2.out.opened
  have hn3 : 3 = n2 := by rw [← hn2.out, HL.out]
  subst hn3
  obtain ⟨i0, b0, o0, f0, cs, rfl, hb0, _, _, ⟨y0, rfl, hy0⟩, e0⟩ := r k0 (by omega)
  have d0 := e0 0 (by simp)
  simp only [Nat.mul_one, Nat.add_zero, List.getElem_cons_zero] at d0
  obtain ⟨a3, n3, c3, rfl, hn3, _, hmx3, _, r3⟩ := hy0.opened
  have hk03' : (k0 : Int) < 3 := by omega
  clear e0 hy0
  go_wp2_with fail
  refine (l1In_v Q1.out _).mono ?_
  rintro e w2 ⟨rfl, rfl⟩
  go_wp2_with fail
  go_loopw [5] (fun i wr => ∃ k : Nat, k ≤ 3 ∧ i = .int .i64 k ∧ (∀ j, j < k → j ≠ k0 → (progAt c j).any (asksOf c.map (progAt c k0)) = false) ∧ Below w2.heap.size w2 wr) (fun i _ => 3 - (intOf i).toNat)
  case atStart => exact ⟨0, Nat.zero_le _, rfl, fun j h => absurd h (Nat.not_lt_zero j), Below.refl _ _⟩
  case round =>
    obtain ⟨k, hk, rfl, hp, hbel⟩ := hrel
    have HP := Lib.hid hp
    have HB := Lib.hid hbel
    clear hp
    by_cases hlt : k < 3
    · obtain ⟨i1, b1, o1, f1, cs, ea, hb1, _, _, ⟨y1, rfl, hy1⟩, e1⟩ := r k hlt
      simp only [Option.some.injEq, Addr.mk.injEq, and_true] at ea
      obtain ⟨rfl, rfl⟩ := ea
      have d1 := e1 0 (by simp)
      simp only [Nat.mul_one, Nat.add_zero, List.getElem_cons_zero] at d1
      obtain ⟨a4, n4, c4, rfl, hn4, _, hmx4, _, r4⟩ := hy1.opened
      have HP1 : Hid (progAt c k = c.progs[k]) := Lib.hid (progAt_at i1)
      have hk3' : (k : Int) < 3 := by omega
      clear r e1 hy1 hbel
      go_wp2_with fail
      go_loopw [6] (fun i wr => ∃ j : Nat, j ≤ n4 ∧ i = .int .i64 j ∧ (∀ t (h : t < c.progs[k].length), t < j → asksOf c.map (progAt c k0) c.progs[k][t] = false) ∧ Below w2.heap.size w2 wr) (fun i _ => n4 - (intOf i).toNat)
      case atStart => exact ⟨0, Nat.zero_le _, rfl, fun t _ h => absurd h (Nat.not_lt_zero t), HB.out⟩
      case round =>
        clear HB
        obtain ⟨j, hj, rfl, hq, hbel⟩ := hrel
        have HQ := Lib.hid hq
        have HB := Lib.hid hbel
        have x0 := keep_cell hbel X0
        have x2 := keep_cell hbel X2
        have z0 := keep_cell hbel d0
        have z1 := keep_cell hbel d1
        clear hq hbel
        by_cases hek : k = k0
        · subst hek
          have hne : ((k : Int) != (k : Int)) = false := by simp
          clear r3 r4
          go_wp2
          go_roundw
          case rel => exact ⟨k + 1, by omega, by go_num, fun t h hn => HP.out t (by omega) hn, HB.out⟩
          case measure => simp [intOf]; omega
        have hne : ((k : Int) != (k0 : Int)) = true := by simp; omega
        by_cases hjt : j < n4
        · have hjj : (j : Int) < (n4 : Int) := by omega
          obtain ⟨i4, b4, o4, f4, cs, rfl, hb4, _, _, ⟨dv, lv, df, lf, rfl, rfl, hd, hl⟩, e4⟩ := r4 j hjt
          have s0 := e4 0 (by simp)
          have s1 := e4 1 (by simp)
          have s2 := e4 2 (by simp)
          have s3 := e4 3 (by simp)
          have s4 := e4 4 (by simp)
          have s5 := e4 5 (by simp)
          have s6 := e4 6 (by simp)
          simp only [Nat.add_zero, List.getElem_cons_zero, List.getElem_cons_succ] at s0 s1 s2 s3 s4 s5 s6
          have GD := Lib.hid hd
          have GL := Lib.hid hl
          obtain ⟨ra, hra⟩ : ∃ q, q = c.progs[k][j] := ⟨_, rfl⟩
          simp only [← hra] at s0 s1 s2 s3 s4 s5 s6 GD GL
          have HRA := Lib.hid hra
          have RA : Hid (reqOk ra = true) := Lib.hid (by rw [hra]; exact HR.out k j i1 i4)
          clear e4 r4 hd hl hra
          go_wp2_with fail
          go_loopw [7] (fun i wr => ∃ q : Nat, q ≤ n3 ∧ i = .int .i64 q ∧ (∀ t (h : t < (c.progs[k0]'(by rw [HL.out]; exact hk03)).length), t < q → slaveOf c.map ra ≠ slaveOf c.map (c.progs[k0]'(by rw [HL.out]; exact hk03))[t]) ∧ Below w2.heap.size w2 wr) (fun i _ => n3 - (intOf i).toNat)
          case atStart => exact ⟨0, Nat.zero_le _, rfl, fun t _ h => absurd h (Nat.not_lt_zero t), HB.out⟩
          case round =>
            clear HB x0 x2 z0 z1
            obtain ⟨q, hq, rfl, hu, hbel⟩ := hrel
            have HU := Lib.hid hu
            have HB := Lib.hid hbel
            have x0 := keep_cell hbel X0
            have x2 := keep_cell hbel X2
            have z0 := keep_cell hbel d0
            have z1 := keep_cell hbel d1
            by_cases hqt : q < n3
            · have hqq : (q : Int) < (n3 : Int) := by omega
              obtain ⟨i5, b5, o5, f5, cs, rfl, hb5, _, _, ⟨dv5, lv5, df5, lf5, rfl, rfl, hd5, hl5⟩, e5⟩ := r3 q hqt
              have t0 := keep_cell hbel (e5 0 (by simp))
              have t1 := keep_cell hbel (e5 1 (by simp))
              have t2 := keep_cell hbel (e5 2 (by simp))
              have t3 := keep_cell hbel (e5 3 (by simp))
              have t4 := keep_cell hbel (e5 4 (by simp))
              have t5 := keep_cell hbel (e5 5 (by simp))
              have t6 := keep_cell hbel (e5 6 (by simp))
              simp only [Nat.add_zero, List.getElem_cons_zero, List.getElem_cons_succ] at t0 t1 t2 t3 t4 t5 t6
              have y0 := keep_cell hbel s0
              have y1 := keep_cell hbel s1
              have y2 := keep_cell hbel s2
              have y3 := keep_cell hbel s3
              have y4 := keep_cell hbel s4
              have y5 := keep_cell hbel s5
              have y6 := keep_cell hbel s6
              have M0 := Lib.hid (SlR.below mrR_fits G0.out hbel)
              have GDa := Lib.hid (SlR.below intR_fits GD.out hbel)
              have GLa := Lib.hid (SlR.below intR_fits GL.out hbel)
              have GDb := Lib.hid (SlR.below intR_fits hd5 hbel)
              have GLb := Lib.hid (SlR.below intR_fits hl5 hbel)
              obtain ⟨rb, hrb⟩ : ∃ z, z = (c.progs[k0]'(by rw [HL.out]; exact hk03))[q] := ⟨_, rfl⟩
              simp only [← hrb] at t0 t1 t2 t3 t4 t5 t6 GDb GLb
              have HRB := Lib.hid hrb
              have RB : Hid (reqOk rb = true) := Lib.hid (by rw [hrb]; exact HR.out k0 q i0 i5)
              obtain ⟨sa, hsa⟩ : ∃ z, slaveOf c.map ra = z := ⟨_, rfl⟩
              obtain ⟨sb, hsb⟩ : ∃ z, slaveOf c.map rb = z := ⟨_, rfl⟩
              have SA := Lib.hid hsa
              have SB := Lib.hid hsb
              clear hbel hu hd5 hl5 e5 hrb hsa hsb s0 s1 s2 s3 s4 s5 s6 d0 d1 X0 X2 r3
              go_wp2_with fail
              have hst : ∀ F, F ∈ [FEq (.pointer (some ⟨w.heap.size, 0, none⟩)), FEq (.slice a0 n0 c0), FEq (.pointer (some ⟨w.heap.size, 2, none⟩)), FEq (.slice (some ⟨b0, o0, none⟩) 3 c2), FEq (.int .i64 (k : Int)), FEq (.pointer (some ⟨b0, o0 + k, none⟩)), FEq (.slice (some ⟨b4, o4, none⟩) n4 c4), FEq (.int .i64 (j : Int)), FEq (.pointer (some ⟨b4, o4 + j * 7, none⟩)), FEq (.agg #[.int .i64 ra.id, .int .i64 ra.kind, .int .i64 ra.addr, .int .i64 ra.many, .bool ra.wrap, dv, lv]), FEq (.int .i64 sa), FEq (.pointer (some ⟨w.heap.size, 0, none⟩)), FEq (.slice a0 n0 c0), FEq (.pointer (some ⟨w.heap.size, 2, none⟩)), FEq (.slice (some ⟨b0, o0, none⟩) 3 c2), FEq (.int .i64 (k0 : Int)), FEq (.pointer (some ⟨b0, o0 + k0, none⟩)), FEq (.slice (some ⟨b5, o5, none⟩) n3 c3), FEq (.int .i64 (q : Int)), FEq (.pointer (some ⟨b5, o5 + q * 7, none⟩)), FEq (.agg #[.int .i64 rb.id, .int .i64 rb.kind, .int .i64 rb.addr, .int .i64 rb.many, .bool rb.wrap, dv5, lv5])] → Stable [] F := by
                simp only [List.forall_mem_cons]
                exact ⟨stEq _ _, stEq _ _, stEq _ _, stEq _ _, stEq _ _, stEq _ _, stEq _ _, stEq _ _, stEq _ _, stEq _ _, stEq _ _, stEq _ _, stEq _ _, stEq _ _, stEq _ _, stEq _ _, stEq _ _, stEq _ _, stEq _ _, stEq _ _, stEq _ _, fun _ h => by simp at h⟩
              refine wp_region_tail (by kernel_rfl) (fun i => ([[], [0], [], [2], [], [2, 3, 4], [2, 3, 4, 5], [], [2, 3, 4, 5, 6, 7], [2, 3, 4, 5, 6, 7, 8], [0, 1, 2, 3, 4, 5, 6, 7, 8, 9], [], [11], [], [13], [], [13, 14, 15], [13, 14, 15, 16], [], [13, 14, 15, 16, 17, 18], [13, 14, 15, 16, 17, 18, 19], [0, 1, 2, 3, 4, 5, 6, 7, 8, 9, 10, 11, 12, 13, 14, 15, 16, 17, 18, 19, 20], [0, 1, 2, 3, 4, 5, 6, 7, 8, 9, 10, 11, 12, 13, 14, 15, 16, 17, 18, 19, 20, 21]] : List (List Nat)).getD i []) (facts [FEq (.pointer (some ⟨w.heap.size, 0, none⟩)), FEq (.slice a0 n0 c0), FEq (.pointer (some ⟨w.heap.size, 2, none⟩)), FEq (.slice (some ⟨b0, o0, none⟩) 3 c2), FEq (.int .i64 (k : Int)), FEq (.pointer (some ⟨b0, o0 + k, none⟩)), FEq (.slice (some ⟨b4, o4, none⟩) n4 c4), FEq (.int .i64 (j : Int)), FEq (.pointer (some ⟨b4, o4 + j * 7, none⟩)), FEq (.agg #[.int .i64 ra.id, .int .i64 ra.kind, .int .i64 ra.addr, .int .i64 ra.many, .bool ra.wrap, dv, lv]), FEq (.int .i64 sa), FEq (.pointer (some ⟨w.heap.size, 0, none⟩)), FEq (.slice a0 n0 c0), FEq (.pointer (some ⟨w.heap.size, 2, none⟩)), FEq (.slice (some ⟨b0, o0, none⟩) 3 c2), FEq (.int .i64 (k0 : Int)), FEq (.pointer (some ⟨b0, o0 + k0, none⟩)), FEq (.slice (some ⟨b5, o5, none⟩) n3 c3), FEq (.int .i64 (q : Int)), FEq (.pointer (some ⟨b5, o5 + q * 7, none⟩)), FEq (.agg #[.int .i64 rb.id, .int .i64 rb.kind, .int .i64 rb.addr, .int .i64 rb.many, .bool rb.wrap, dv5, lv5])]) (fun m w' => Below wr.heap.size wr w') 68 23 21 [some 45, some 46, some 47, some 48, some 49, some 50, some 51, some 52, some 53, some 54, some 55, some 56, some 57, some 58, some 59, some 60, some 61, some 62, some 63, some 64, some 65] _ rfl rfl (by decide) rfl rfl (by kernel_rfl) (by kernel_rfl) [] (by kernel_rfl) (fun g b hm v w h => by simp at hm) ?h0 (all_lt (n := 21) ?hop) ?hend
              case h0 => exact (Below.refl _ _).drew
              case hop =>
                refine ⟨⟨⟨⟨⟨⟨⟨⟨⟨⟨⟨⟨⟨⟨⟨⟨⟨⟨⟨⟨⟨trivial, ?_⟩, ?_⟩, ?_⟩, ?_⟩, ?_⟩, ?_⟩, ?_⟩, ?_⟩, ?_⟩, ?_⟩, ?_⟩, ?_⟩, ?_⟩, ?_⟩, ?_⟩, ?_⟩, ?_⟩, ?_⟩, ?_⟩, ?_⟩, ?_⟩
                · refine Owes.mk _ rfl rfl (fun _ _ h => by cases h) fun u m w' hm hI hR => ⟨⟨#[undef, undef, .pointer (some ⟨w.heap.size, 0, none⟩), undef, undef, undef, undef, undef, undef, undef, undef, undef, undef, undef, undef, undef, undef, undef, undef, undef, undef, undef, undef, undef, undef, undef, undef, undef, undef, undef, undef, undef, undef, undef, undef, undef, undef, undef, undef, undef, undef, undef, undef, undef, undef, undef, undef, undef, undef, undef, undef, undef, undef, undef, undef, undef, undef, undef, undef, undef, undef, undef, undef, undef, undef, undef, undef, undef], []⟩, rfl, fun d hd => by cases hd; exact (by decide : 45 < 68), ?_⟩
                  have k0 := keep_cell hI x0
                  have k1 := keep_cell hI x2
                  have k2 := keep_cell hI z0
                  have k3 := keep_cell hI z1
                  have k4 := keep_cell hI y0
                  have k5 := keep_cell hI y1
                  have k6 := keep_cell hI y2
                  have k7 := keep_cell hI y3
                  have k8 := keep_cell hI y4
                  have k9 := keep_cell hI y5
                  have k10 := keep_cell hI y6
                  have k11 := keep_cell hI t0
                  have k12 := keep_cell hI t1
                  have k13 := keep_cell hI t2
                  have k14 := keep_cell hI t3
                  have k15 := keep_cell hI t4
                  have k16 := keep_cell hI t5
                  have k17 := keep_cell hI t6
                  have HI := Lib.hid hI
                  clear hI hst hR
                  go_wp2
                  exact ⟨rfl, _, rfl, rfl, HI.out, fun _ _ h => h⟩
                · refine Owes.mk _ rfl rfl (fun _ _ h => by cases h) fun u m w' hm hI hR => ⟨⟨#[undef, undef, undef, undef, undef, undef, undef, undef, undef, undef, undef, undef, undef, undef, undef, undef, undef, undef, undef, undef, undef, undef, undef, undef, undef, undef, undef, undef, undef, undef, undef, undef, undef, undef, undef, undef, undef, undef, undef, undef, undef, undef, undef, undef, undef, u 0, undef, undef, undef, undef, undef, undef, undef, undef, undef, undef, undef, undef, undef, undef, undef, undef, undef, undef, undef, undef, undef, undef], []⟩, rfl, fun d hd => by cases hd; exact (by decide : 46 < 68), ?_⟩
                  have e0 : u 0 = _ := hR 0 (by decide)
                  have k0 := keep_cell hI x0
                  have k1 := keep_cell hI x2
                  have k2 := keep_cell hI z0
                  have k3 := keep_cell hI z1
                  have k4 := keep_cell hI y0
                  have k5 := keep_cell hI y1
                  have k6 := keep_cell hI y2
                  have k7 := keep_cell hI y3
                  have k8 := keep_cell hI y4
                  have k9 := keep_cell hI y5
                  have k10 := keep_cell hI y6
                  have k11 := keep_cell hI t0
                  have k12 := keep_cell hI t1
                  have k13 := keep_cell hI t2
                  have k14 := keep_cell hI t3
                  have k15 := keep_cell hI t4
                  have k16 := keep_cell hI t5
                  have k17 := keep_cell hI t6
                  have HI := Lib.hid hI
                  clear hI hst hR
                  rw [e0]
                  clear e0
                  go_wp2
                  exact ⟨rfl, _, rfl, rfl, HI.out, fun _ _ h => h⟩
                · refine Owes.mk _ rfl rfl (fun _ _ h => by cases h) fun u m w' hm hI hR => ⟨⟨#[undef, undef, .pointer (some ⟨w.heap.size, 0, none⟩), undef, undef, undef, undef, undef, undef, undef, undef, undef, undef, undef, undef, undef, undef, undef, undef, undef, undef, undef, undef, undef, undef, undef, undef, undef, undef, undef, undef, undef, undef, undef, undef, undef, undef, undef, undef, undef, undef, undef, undef, undef, undef, undef, undef, undef, undef, undef, undef, undef, undef, undef, undef, undef, undef, undef, undef, undef, undef, undef, undef, undef, undef, undef, undef, undef], []⟩, rfl, fun d hd => by cases hd; exact (by decide : 47 < 68), ?_⟩
                  have k0 := keep_cell hI x0
                  have k1 := keep_cell hI x2
                  have k2 := keep_cell hI z0
                  have k3 := keep_cell hI z1
                  have k4 := keep_cell hI y0
                  have k5 := keep_cell hI y1
                  have k6 := keep_cell hI y2
                  have k7 := keep_cell hI y3
                  have k8 := keep_cell hI y4
                  have k9 := keep_cell hI y5
                  have k10 := keep_cell hI y6
                  have k11 := keep_cell hI t0
                  have k12 := keep_cell hI t1
                  have k13 := keep_cell hI t2
                  have k14 := keep_cell hI t3
                  have k15 := keep_cell hI t4
                  have k16 := keep_cell hI t5
                  have k17 := keep_cell hI t6
                  have HI := Lib.hid hI
                  clear hI hst hR
                  go_wp2
                  exact ⟨rfl, _, rfl, rfl, HI.out, fun _ _ h => h⟩
                · refine Owes.mk _ rfl rfl (fun _ _ h => by cases h) fun u m w' hm hI hR => ⟨⟨#[undef, undef, undef, undef, undef, undef, undef, undef, undef, undef, undef, undef, undef, undef, undef, undef, undef, undef, undef, undef, undef, undef, undef, undef, undef, undef, undef, undef, undef, undef, undef, undef, undef, undef, undef, undef, undef, undef, undef, undef, undef, undef, undef, undef, undef, undef, undef, u 2, undef, undef, undef, undef, undef, undef, undef, undef, undef, undef, undef, undef, undef, undef, undef, undef, undef, undef, undef, undef], []⟩, rfl, fun d hd => by cases hd; exact (by decide : 48 < 68), ?_⟩
                  have e2 : u 2 = _ := hR 2 (by decide)
                  have k0 := keep_cell hI x0
                  have k1 := keep_cell hI x2
                  have k2 := keep_cell hI z0
                  have k3 := keep_cell hI z1
                  have k4 := keep_cell hI y0
                  have k5 := keep_cell hI y1
                  have k6 := keep_cell hI y2
                  have k7 := keep_cell hI y3
                  have k8 := keep_cell hI y4
                  have k9 := keep_cell hI y5
                  have k10 := keep_cell hI y6
                  have k11 := keep_cell hI t0
                  have k12 := keep_cell hI t1
                  have k13 := keep_cell hI t2
                  have k14 := keep_cell hI t3
                  have k15 := keep_cell hI t4
                  have k16 := keep_cell hI t5
                  have k17 := keep_cell hI t6
                  have HI := Lib.hid hI
                  clear hI hst hR
                  rw [e2]
                  clear e2
                  go_wp2
                  exact ⟨rfl, _, rfl, rfl, HI.out, fun _ _ h => h⟩
                · refine Owes.mk _ rfl rfl (fun _ _ h => by cases h) fun u m w' hm hI hR => ⟨⟨#[undef, undef, undef, undef, undef, .int .i64 (k : Int), undef, undef, undef, undef, undef, undef, undef, undef, undef, undef, undef, undef, undef, undef, undef, undef, undef, undef, undef, undef, undef, undef, undef, undef, undef, undef, undef, undef, undef, undef, undef, undef, undef, undef, undef, undef, undef, undef, undef, undef, undef, undef, undef, undef, undef, undef, undef, undef, undef, undef, undef, undef, undef, undef, undef, undef, undef, undef, undef, undef, undef, undef], []⟩, rfl, fun d hd => by cases hd; exact (by decide : 49 < 68), ?_⟩
                  have k0 := keep_cell hI x0
                  have k1 := keep_cell hI x2
                  have k2 := keep_cell hI z0
                  have k3 := keep_cell hI z1
                  have k4 := keep_cell hI y0
                  have k5 := keep_cell hI y1
                  have k6 := keep_cell hI y2
                  have k7 := keep_cell hI y3
                  have k8 := keep_cell hI y4
                  have k9 := keep_cell hI y5
                  have k10 := keep_cell hI y6
                  have k11 := keep_cell hI t0
                  have k12 := keep_cell hI t1
                  have k13 := keep_cell hI t2
                  have k14 := keep_cell hI t3
                  have k15 := keep_cell hI t4
                  have k16 := keep_cell hI t5
                  have k17 := keep_cell hI t6
                  have HI := Lib.hid hI
                  clear hI hst hR
                  go_wp2
                  exact ⟨rfl, _, rfl, rfl, HI.out, fun _ _ h => h⟩
                · refine Owes.mk _ rfl rfl (fun _ _ h => by cases h) fun u m w' hm hI hR => ⟨⟨#[undef, undef, undef, undef, undef, undef, undef, undef, undef, undef, undef, undef, undef, undef, undef, undef, undef, undef, undef, undef, undef, undef, undef, undef, undef, undef, undef, undef, undef, undef, undef, undef, undef, undef, undef, undef, undef, undef, undef, undef, undef, undef, undef, undef, undef, undef, undef, undef, u 3, u 4, undef, undef, undef, undef, undef, undef, undef, undef, undef, undef, undef, undef, undef, undef, undef, undef, undef, undef], []⟩, rfl, fun d hd => by cases hd; exact (by decide : 50 < 68), ?_⟩
                  have e3 : u 3 = _ := hR 3 (by decide)
                  have e4 : u 4 = _ := hR 4 (by decide)
                  have k0 := keep_cell hI x0
                  have k1 := keep_cell hI x2
                  have k2 := keep_cell hI z0
                  have k3 := keep_cell hI z1
                  have k4 := keep_cell hI y0
                  have k5 := keep_cell hI y1
                  have k6 := keep_cell hI y2
                  have k7 := keep_cell hI y3
                  have k8 := keep_cell hI y4
                  have k9 := keep_cell hI y5
                  have k10 := keep_cell hI y6
                  have k11 := keep_cell hI t0
                  have k12 := keep_cell hI t1
                  have k13 := keep_cell hI t2
                  have k14 := keep_cell hI t3
                  have k15 := keep_cell hI t4
                  have k16 := keep_cell hI t5
                  have k17 := keep_cell hI t6
                  have HI := Lib.hid hI
                  clear hI hst hR
                  rw [e3, e4]
                  clear e3 e4
                  go_wp2
                  exact ⟨rfl, _, rfl, rfl, HI.out, fun _ _ h => h⟩
                · refine Owes.mk _ rfl rfl (fun _ _ h => by cases h) fun u m w' hm hI hR => ⟨⟨#[undef, undef, undef, undef, undef, undef, undef, undef, undef, undef, undef, undef, undef, undef, undef, undef, undef, undef, undef, undef, undef, undef, undef, undef, undef, undef, undef, undef, undef, undef, undef, undef, undef, undef, undef, undef, undef, undef, undef, undef, undef, undef, undef, undef, undef, undef, undef, undef, undef, undef, u 5, undef, undef, undef, undef, undef, undef, undef, undef, undef, undef, undef, undef, undef, undef, undef, undef, undef], []⟩, rfl, fun d hd => by cases hd; exact (by decide : 51 < 68), ?_⟩
                  have e5 : u 5 = _ := hR 5 (by decide)
                  have k0 := keep_cell hI x0
                  have k1 := keep_cell hI x2
                  have k2 := keep_cell hI z0
                  have k3 := keep_cell hI z1
                  have k4 := keep_cell hI y0
                  have k5 := keep_cell hI y1
                  have k6 := keep_cell hI y2
                  have k7 := keep_cell hI y3
                  have k8 := keep_cell hI y4
                  have k9 := keep_cell hI y5
                  have k10 := keep_cell hI y6
                  have k11 := keep_cell hI t0
                  have k12 := keep_cell hI t1
                  have k13 := keep_cell hI t2
                  have k14 := keep_cell hI t3
                  have k15 := keep_cell hI t4
                  have k16 := keep_cell hI t5
                  have k17 := keep_cell hI t6
                  have HI := Lib.hid hI
                  clear hI hst hR
                  rw [e5]
                  clear e5
                  go_wp2
                  exact ⟨rfl, _, rfl, rfl, HI.out, fun _ _ h => h⟩
                · refine Owes.mk _ rfl rfl (fun _ _ h => by cases h) fun u m w' hm hI hR => ⟨⟨#[undef, undef, undef, undef, undef, undef, .int .i64 (j : Int), undef, undef, undef, undef, undef, undef, undef, undef, undef, undef, undef, undef, undef, undef, undef, undef, undef, undef, undef, undef, undef, undef, undef, undef, undef, undef, undef, undef, undef, undef, undef, undef, undef, undef, undef, undef, undef, undef, undef, undef, undef, undef, undef, undef, undef, undef, undef, undef, undef, undef, undef, undef, undef, undef, undef, undef, undef, undef, undef, undef, undef], []⟩, rfl, fun d hd => by cases hd; exact (by decide : 52 < 68), ?_⟩
                  have k0 := keep_cell hI x0
                  have k1 := keep_cell hI x2
                  have k2 := keep_cell hI z0
                  have k3 := keep_cell hI z1
                  have k4 := keep_cell hI y0
                  have k5 := keep_cell hI y1
                  have k6 := keep_cell hI y2
                  have k7 := keep_cell hI y3
                  have k8 := keep_cell hI y4
                  have k9 := keep_cell hI y5
                  have k10 := keep_cell hI y6
                  have k11 := keep_cell hI t0
                  have k12 := keep_cell hI t1
                  have k13 := keep_cell hI t2
                  have k14 := keep_cell hI t3
                  have k15 := keep_cell hI t4
                  have k16 := keep_cell hI t5
                  have k17 := keep_cell hI t6
                  have HI := Lib.hid hI
                  clear hI hst hR
                  go_wp2
                  exact ⟨rfl, _, rfl, rfl, HI.out, fun _ _ h => h⟩
                · refine Owes.mk _ rfl rfl (fun _ _ h => by cases h) fun u m w' hm hI hR => ⟨⟨#[undef, undef, undef, undef, undef, undef, undef, undef, undef, undef, undef, undef, undef, undef, undef, undef, undef, undef, undef, undef, undef, undef, undef, undef, undef, undef, undef, undef, undef, undef, undef, undef, undef, undef, undef, undef, undef, undef, undef, undef, undef, undef, undef, undef, undef, undef, undef, undef, undef, undef, undef, u 6, u 7, undef, undef, undef, undef, undef, undef, undef, undef, undef, undef, undef, undef, undef, undef, undef], []⟩, rfl, fun d hd => by cases hd; exact (by decide : 53 < 68), ?_⟩
                  have e6 : u 6 = _ := hR 6 (by decide)
                  have e7 : u 7 = _ := hR 7 (by decide)
                  have k0 := keep_cell hI x0
                  have k1 := keep_cell hI x2
                  have k2 := keep_cell hI z0
                  have k3 := keep_cell hI z1
                  have k4 := keep_cell hI y0
                  have k5 := keep_cell hI y1
                  have k6 := keep_cell hI y2
                  have k7 := keep_cell hI y3
                  have k8 := keep_cell hI y4
                  have k9 := keep_cell hI y5
                  have k10 := keep_cell hI y6
                  have k11 := keep_cell hI t0
                  have k12 := keep_cell hI t1
                  have k13 := keep_cell hI t2
                  have k14 := keep_cell hI t3
                  have k15 := keep_cell hI t4
                  have k16 := keep_cell hI t5
                  have k17 := keep_cell hI t6
                  have HI := Lib.hid hI
                  clear hI hst hR
                  rw [e6, e7]
                  clear e6 e7
                  go_wp2
                  exact ⟨rfl, _, rfl, rfl, HI.out, fun _ _ h => h⟩
                · refine Owes.mk _ rfl rfl (fun _ _ h => by cases h) fun u m w' hm hI hR => ⟨⟨#[undef, undef, undef, undef, undef, undef, undef, undef, undef, undef, undef, undef, undef, undef, undef, undef, undef, undef, undef, undef, undef, undef, undef, undef, undef, undef, undef, undef, undef, undef, undef, undef, undef, undef, undef, undef, undef, undef, undef, undef, undef, undef, undef, undef, undef, undef, undef, undef, undef, undef, undef, undef, undef, u 8, undef, undef, undef, undef, undef, undef, undef, undef, undef, undef, undef, undef, undef, undef], []⟩, rfl, fun d hd => by cases hd; exact (by decide : 54 < 68), ?_⟩
                  have e8 : u 8 = _ := hR 8 (by decide)
                  have k0 := keep_cell hI x0
                  have k1 := keep_cell hI x2
                  have k2 := keep_cell hI z0
                  have k3 := keep_cell hI z1
                  have k4 := keep_cell hI y0
                  have k5 := keep_cell hI y1
                  have k6 := keep_cell hI y2
                  have k7 := keep_cell hI y3
                  have k8 := keep_cell hI y4
                  have k9 := keep_cell hI y5
                  have k10 := keep_cell hI y6
                  have k11 := keep_cell hI t0
                  have k12 := keep_cell hI t1
                  have k13 := keep_cell hI t2
                  have k14 := keep_cell hI t3
                  have k15 := keep_cell hI t4
                  have k16 := keep_cell hI t5
                  have k17 := keep_cell hI t6
                  have HI := Lib.hid hI
                  clear hI hst hR
                  rw [e8]
                  clear e8
                  go_wp2
                  exact ⟨rfl, _, rfl, rfl, HI.out, fun _ _ h => h⟩
                · refine Owes.mk _ rfl rfl (fun _ _ h => by cases h) fun u m w' hm hI hR => ⟨⟨#[undef, undef, undef, undef, undef, undef, undef, undef, undef, undef, undef, undef, undef, undef, undef, undef, undef, undef, undef, undef, undef, undef, undef, undef, undef, undef, undef, undef, undef, undef, undef, undef, undef, undef, undef, undef, undef, undef, undef, undef, undef, undef, undef, undef, undef, undef, u 1, undef, undef, undef, undef, undef, undef, undef, u 9, undef, undef, undef, undef, undef, undef, undef, undef, undef, undef, undef, undef, undef], []⟩, rfl, fun d hd => by cases hd; exact (by decide : 55 < 68), ?_⟩
                  have e1 : u 1 = _ := hR 1 (by decide)
                  have e9 : u 9 = _ := hR 9 (by decide)
                  have k0 := keep_cell hI x0
                  have k1 := keep_cell hI x2
                  have k2 := keep_cell hI z0
                  have k3 := keep_cell hI z1
                  have k4 := keep_cell hI y0
                  have k5 := keep_cell hI y1
                  have k6 := keep_cell hI y2
                  have k7 := keep_cell hI y3
                  have k8 := keep_cell hI y4
                  have k9 := keep_cell hI y5
                  have k10 := keep_cell hI y6
                  have k11 := keep_cell hI t0
                  have k12 := keep_cell hI t1
                  have k13 := keep_cell hI t2
                  have k14 := keep_cell hI t3
                  have k15 := keep_cell hI t4
                  have k16 := keep_cell hI t5
                  have k17 := keep_cell hI t6
                  rw [e1, e9]
                  clear e1 e9
                  have N0 := Lib.hid (SlR.below mrR_fits M0.out hI)
                  have N1 := Lib.hid (SlR.below intR_fits GDa.out hI)
                  have N2 := Lib.hid (SlR.below intR_fits GLa.out hI)
                  have HI := Lib.hid hI
                  clear hI hR
                  go_wp2_with fail
                  refine (sReqSlave_ok _ c.map fp0 ra _ _ df lf HM.out RA.out _ N0.out N1.out N2.out).mono ?_
                  rw [SA.out]
                  rintro e w7 ⟨rfl, b7⟩
                  have HS := Lib.hid (facts_stable hst (b7.chg []))
                  have HI7 := Lib.hid (HI.out.trans (b7.mono HI.out.size))
                  clear b7 hst
                  go_wp2
                  exact ⟨rfl, _, rfl, rfl, HI7.out, HS.out⟩
                · refine Owes.mk _ rfl rfl (fun _ _ h => by cases h) fun u m w' hm hI hR => ⟨⟨#[undef, undef, .pointer (some ⟨w.heap.size, 0, none⟩), undef, undef, undef, undef, undef, undef, undef, undef, undef, undef, undef, undef, undef, undef, undef, undef, undef, undef, undef, undef, undef, undef, undef, undef, undef, undef, undef, undef, undef, undef, undef, undef, undef, undef, undef, undef, undef, undef, undef, undef, undef, undef, undef, undef, undef, undef, undef, undef, undef, undef, undef, undef, undef, undef, undef, undef, undef, undef, undef, undef, undef, undef, undef, undef, undef], []⟩, rfl, fun d hd => by cases hd; exact (by decide : 56 < 68), ?_⟩
                  have k0 := keep_cell hI x0
                  have k1 := keep_cell hI x2
                  have k2 := keep_cell hI z0
                  have k3 := keep_cell hI z1
                  have k4 := keep_cell hI y0
                  have k5 := keep_cell hI y1
                  have k6 := keep_cell hI y2
                  have k7 := keep_cell hI y3
                  have k8 := keep_cell hI y4
                  have k9 := keep_cell hI y5
                  have k10 := keep_cell hI y6
                  have k11 := keep_cell hI t0
                  have k12 := keep_cell hI t1
                  have k13 := keep_cell hI t2
                  have k14 := keep_cell hI t3
                  have k15 := keep_cell hI t4
                  have k16 := keep_cell hI t5
                  have k17 := keep_cell hI t6
                  have HI := Lib.hid hI
                  clear hI hst hR
                  go_wp2
                  exact ⟨rfl, _, rfl, rfl, HI.out, fun _ _ h => h⟩
                · refine Owes.mk _ rfl rfl (fun _ _ h => by cases h) fun u m w' hm hI hR => ⟨⟨#[undef, undef, undef, undef, undef, undef, undef, undef, undef, undef, undef, undef, undef, undef, undef, undef, undef, undef, undef, undef, undef, undef, undef, undef, undef, undef, undef, undef, undef, undef, undef, undef, undef, undef, undef, undef, undef, undef, undef, undef, undef, undef, undef, undef, undef, undef, undef, undef, undef, undef, undef, undef, undef, undef, undef, undef, u 11, undef, undef, undef, undef, undef, undef, undef, undef, undef, undef, undef], []⟩, rfl, fun d hd => by cases hd; exact (by decide : 57 < 68), ?_⟩
                  have e11 : u 11 = _ := hR 11 (by decide)
                  have k0 := keep_cell hI x0
                  have k1 := keep_cell hI x2
                  have k2 := keep_cell hI z0
                  have k3 := keep_cell hI z1
                  have k4 := keep_cell hI y0
                  have k5 := keep_cell hI y1
                  have k6 := keep_cell hI y2
                  have k7 := keep_cell hI y3
                  have k8 := keep_cell hI y4
                  have k9 := keep_cell hI y5
                  have k10 := keep_cell hI y6
                  have k11 := keep_cell hI t0
                  have k12 := keep_cell hI t1
                  have k13 := keep_cell hI t2
                  have k14 := keep_cell hI t3
                  have k15 := keep_cell hI t4
                  have k16 := keep_cell hI t5
                  have k17 := keep_cell hI t6
                  have HI := Lib.hid hI
                  clear hI hst hR
                  rw [e11]
                  clear e11
                  go_wp2
                  exact ⟨rfl, _, rfl, rfl, HI.out, fun _ _ h => h⟩
                · refine Owes.mk _ rfl rfl (fun _ _ h => by cases h) fun u m w' hm hI hR => ⟨⟨#[undef, undef, .pointer (some ⟨w.heap.size, 0, none⟩), undef, undef, undef, undef, undef, undef, undef, undef, undef, undef, undef, undef, undef, undef, undef, undef, undef, undef, undef, undef, undef, undef, undef, undef, undef, undef, undef, undef, undef, undef, undef, undef, undef, undef, undef, undef, undef, undef, undef, undef, undef, undef, undef, undef, undef, undef, undef, undef, undef, undef, undef, undef, undef, undef, undef, undef, undef, undef, undef, undef, undef, undef, undef, undef, undef], []⟩, rfl, fun d hd => by cases hd; exact (by decide : 58 < 68), ?_⟩
                  have k0 := keep_cell hI x0
                  have k1 := keep_cell hI x2
                  have k2 := keep_cell hI z0
                  have k3 := keep_cell hI z1
                  have k4 := keep_cell hI y0
                  have k5 := keep_cell hI y1
                  have k6 := keep_cell hI y2
                  have k7 := keep_cell hI y3
                  have k8 := keep_cell hI y4
                  have k9 := keep_cell hI y5
                  have k10 := keep_cell hI y6
                  have k11 := keep_cell hI t0
                  have k12 := keep_cell hI t1
                  have k13 := keep_cell hI t2
                  have k14 := keep_cell hI t3
                  have k15 := keep_cell hI t4
                  have k16 := keep_cell hI t5
                  have k17 := keep_cell hI t6
                  have HI := Lib.hid hI
                  clear hI hst hR
                  go_wp2
                  exact ⟨rfl, _, rfl, rfl, HI.out, fun _ _ h => h⟩
                · refine Owes.mk _ rfl rfl (fun _ _ h => by cases h) fun u m w' hm hI hR => ⟨⟨#[undef, undef, undef, undef, undef, undef, undef, undef, undef, undef, undef, undef, undef, undef, undef, undef, undef, undef, undef, undef, undef, undef, undef, undef, undef, undef, undef, undef, undef, undef, undef, undef, undef, undef, undef, undef, undef, undef, undef, undef, undef, undef, undef, undef, undef, undef, undef, undef, undef, undef, undef, undef, undef, undef, undef, undef, undef, undef, u 13, undef, undef, undef, undef, undef, undef, undef, undef, undef], []⟩, rfl, fun d hd => by cases hd; exact (by decide : 59 < 68), ?_⟩
                  have e13 : u 13 = _ := hR 13 (by decide)
                  have k0 := keep_cell hI x0
                  have k1 := keep_cell hI x2
                  have k2 := keep_cell hI z0
                  have k3 := keep_cell hI z1
                  have k4 := keep_cell hI y0
                  have k5 := keep_cell hI y1
                  have k6 := keep_cell hI y2
                  have k7 := keep_cell hI y3
                  have k8 := keep_cell hI y4
                  have k9 := keep_cell hI y5
                  have k10 := keep_cell hI y6
                  have k11 := keep_cell hI t0
                  have k12 := keep_cell hI t1
                  have k13 := keep_cell hI t2
                  have k14 := keep_cell hI t3
                  have k15 := keep_cell hI t4
                  have k16 := keep_cell hI t5
                  have k17 := keep_cell hI t6
                  have HI := Lib.hid hI
                  clear hI hst hR
                  rw [e13]
                  clear e13
                  go_wp2
                  exact ⟨rfl, _, rfl, rfl, HI.out, fun _ _ h => h⟩
                · refine Owes.mk _ rfl rfl (fun _ _ h => by cases h) fun u m w' hm hI hR => ⟨⟨#[undef, .int .i64 (k0 : Int), undef, undef, undef, undef, undef, undef, undef, undef, undef, undef, undef, undef, undef, undef, undef, undef, undef, undef, undef, undef, undef, undef, undef, undef, undef, undef, undef, undef, undef, undef, undef, undef, undef, undef, undef, undef, undef, undef, undef, undef, undef, undef, undef, undef, undef, undef, undef, undef, undef, undef, undef, undef, undef, undef, undef, undef, undef, undef, undef, undef, undef, undef, undef, undef, undef, undef], []⟩, rfl, fun d hd => by cases hd; exact (by decide : 60 < 68), ?_⟩
                  have k0 := keep_cell hI x0
                  have k1 := keep_cell hI x2
                  have k2 := keep_cell hI z0
                  have k3 := keep_cell hI z1
                  have k4 := keep_cell hI y0
                  have k5 := keep_cell hI y1
                  have k6 := keep_cell hI y2
                  have k7 := keep_cell hI y3
                  have k8 := keep_cell hI y4
                  have k9 := keep_cell hI y5
                  have k10 := keep_cell hI y6
                  have k11 := keep_cell hI t0
                  have k12 := keep_cell hI t1
                  have k13 := keep_cell hI t2
                  have k14 := keep_cell hI t3
                  have k15 := keep_cell hI t4
                  have k16 := keep_cell hI t5
                  have k17 := keep_cell hI t6
                  have HI := Lib.hid hI
                  clear hI hst hR
                  go_wp2
                  exact ⟨rfl, _, rfl, rfl, HI.out, fun _ _ h => h⟩
                · refine Owes.mk _ rfl rfl (fun _ _ h => by cases h) fun u m w' hm hI hR => ⟨⟨#[undef, undef, undef, undef, undef, undef, undef, undef, undef, undef, undef, undef, undef, undef, undef, undef, undef, undef, undef, undef, undef, undef, undef, undef, undef, undef, undef, undef, undef, undef, undef, undef, undef, undef, undef, undef, undef, undef, undef, undef, undef, undef, undef, undef, undef, undef, undef, undef, undef, undef, undef, undef, undef, undef, undef, undef, undef, undef, undef, u 14, u 15, undef, undef, undef, undef, undef, undef, undef], []⟩, rfl, fun d hd => by cases hd; exact (by decide : 61 < 68), ?_⟩
                  have e14 : u 14 = _ := hR 14 (by decide)
                  have e15 : u 15 = _ := hR 15 (by decide)
                  have k0 := keep_cell hI x0
                  have k1 := keep_cell hI x2
                  have k2 := keep_cell hI z0
                  have k3 := keep_cell hI z1
                  have k4 := keep_cell hI y0
                  have k5 := keep_cell hI y1
                  have k6 := keep_cell hI y2
                  have k7 := keep_cell hI y3
                  have k8 := keep_cell hI y4
                  have k9 := keep_cell hI y5
                  have k10 := keep_cell hI y6
                  have k11 := keep_cell hI t0
                  have k12 := keep_cell hI t1
                  have k13 := keep_cell hI t2
                  have k14 := keep_cell hI t3
                  have k15 := keep_cell hI t4
                  have k16 := keep_cell hI t5
                  have k17 := keep_cell hI t6
                  have HI := Lib.hid hI
                  clear hI hst hR
                  rw [e14, e15]
                  clear e14 e15
                  go_wp2
                  exact ⟨rfl, _, rfl, rfl, HI.out, fun _ _ h => h⟩
                · refine Owes.mk _ rfl rfl (fun _ _ h => by cases h) fun u m w' hm hI hR => ⟨⟨#[undef, undef, undef, undef, undef, undef, undef, undef, undef, undef, undef, undef, undef, undef, undef, undef, undef, undef, undef, undef, undef, undef, undef, undef, undef, undef, undef, undef, undef, undef, undef, undef, undef, undef, undef, undef, undef, undef, undef, undef, undef, undef, undef, undef, undef, undef, undef, undef, undef, undef, undef, undef, undef, undef, undef, undef, undef, undef, undef, undef, undef, u 16, undef, undef, undef, undef, undef, undef], []⟩, rfl, fun d hd => by cases hd; exact (by decide : 62 < 68), ?_⟩
                  have e16 : u 16 = _ := hR 16 (by decide)
                  have k0 := keep_cell hI x0
                  have k1 := keep_cell hI x2
                  have k2 := keep_cell hI z0
                  have k3 := keep_cell hI z1
                  have k4 := keep_cell hI y0
                  have k5 := keep_cell hI y1
                  have k6 := keep_cell hI y2
                  have k7 := keep_cell hI y3
                  have k8 := keep_cell hI y4
                  have k9 := keep_cell hI y5
                  have k10 := keep_cell hI y6
                  have k11 := keep_cell hI t0
                  have k12 := keep_cell hI t1
                  have k13 := keep_cell hI t2
                  have k14 := keep_cell hI t3
                  have k15 := keep_cell hI t4
                  have k16 := keep_cell hI t5
                  have k17 := keep_cell hI t6
                  have HI := Lib.hid hI
                  clear hI hst hR
                  rw [e16]
                  clear e16
                  go_wp2
                  exact ⟨rfl, _, rfl, rfl, HI.out, fun _ _ h => h⟩
                · refine Owes.mk _ rfl rfl (fun _ _ h => by cases h) fun u m w' hm hI hR => ⟨⟨#[undef, undef, undef, undef, undef, undef, undef, .int .i64 (q : Int), undef, undef, undef, undef, undef, undef, undef, undef, undef, undef, undef, undef, undef, undef, undef, undef, undef, undef, undef, undef, undef, undef, undef, undef, undef, undef, undef, undef, undef, undef, undef, undef, undef, undef, undef, undef, undef, undef, undef, undef, undef, undef, undef, undef, undef, undef, undef, undef, undef, undef, undef, undef, undef, undef, undef, undef, undef, undef, undef, undef], []⟩, rfl, fun d hd => by cases hd; exact (by decide : 63 < 68), ?_⟩
                  have k0 := keep_cell hI x0
                  have k1 := keep_cell hI x2
                  have k2 := keep_cell hI z0
                  have k3 := keep_cell hI z1
                  have k4 := keep_cell hI y0
                  have k5 := keep_cell hI y1
                  have k6 := keep_cell hI y2
                  have k7 := keep_cell hI y3
                  have k8 := keep_cell hI y4
                  have k9 := keep_cell hI y5
                  have k10 := keep_cell hI y6
                  have k11 := keep_cell hI t0
                  have k12 := keep_cell hI t1
                  have k13 := keep_cell hI t2
                  have k14 := keep_cell hI t3
                  have k15 := keep_cell hI t4
                  have k16 := keep_cell hI t5
                  have k17 := keep_cell hI t6
                  have HI := Lib.hid hI
                  clear hI hst hR
                  go_wp2
                  exact ⟨rfl, _, rfl, rfl, HI.out, fun _ _ h => h⟩
                · refine Owes.mk _ rfl rfl (fun _ _ h => by cases h) fun u m w' hm hI hR => ⟨⟨#[undef, undef, undef, undef, undef, undef, undef, undef, undef, undef, undef, undef, undef, undef, undef, undef, undef, undef, undef, undef, undef, undef, undef, undef, undef, undef, undef, undef, undef, undef, undef, undef, undef, undef, undef, undef, undef, undef, undef, undef, undef, undef, undef, undef, undef, undef, undef, undef, undef, undef, undef, undef, undef, undef, undef, undef, undef, undef, undef, undef, undef, undef, u 17, u 18, undef, undef, undef, undef], []⟩, rfl, fun d hd => by cases hd; exact (by decide : 64 < 68), ?_⟩
                  have e17 : u 17 = _ := hR 17 (by decide)
                  have e18 : u 18 = _ := hR 18 (by decide)
                  have k0 := keep_cell hI x0
                  have k1 := keep_cell hI x2
                  have k2 := keep_cell hI z0
                  have k3 := keep_cell hI z1
                  have k4 := keep_cell hI y0
                  have k5 := keep_cell hI y1
                  have k6 := keep_cell hI y2
                  have k7 := keep_cell hI y3
                  have k8 := keep_cell hI y4
                  have k9 := keep_cell hI y5
                  have k10 := keep_cell hI y6
                  have k11 := keep_cell hI t0
                  have k12 := keep_cell hI t1
                  have k13 := keep_cell hI t2
                  have k14 := keep_cell hI t3
                  have k15 := keep_cell hI t4
                  have k16 := keep_cell hI t5
                  have k17 := keep_cell hI t6
                  have HI := Lib.hid hI
                  clear hI hst hR
                  rw [e17, e18]
                  clear e17 e18
                  go_wp2
                  exact ⟨rfl, _, rfl, rfl, HI.out, fun _ _ h => h⟩
                · refine Owes.mk _ rfl rfl (fun _ _ h => by cases h) fun u m w' hm hI hR => ⟨⟨#[undef, undef, undef, undef, undef, undef, undef, undef, undef, undef, undef, undef, undef, undef, undef, undef, undef, undef, undef, undef, undef, undef, undef, undef, undef, undef, undef, undef, undef, undef, undef, undef, undef, undef, undef, undef, undef, undef, undef, undef, undef, undef, undef, undef, undef, undef, undef, undef, undef, undef, undef, undef, undef, undef, undef, undef, undef, undef, undef, undef, undef, undef, undef, undef, u 19, undef, undef, undef], []⟩, rfl, fun d hd => by cases hd; exact (by decide : 65 < 68), ?_⟩
                  have e19 : u 19 = _ := hR 19 (by decide)
                  have k0 := keep_cell hI x0
                  have k1 := keep_cell hI x2
                  have k2 := keep_cell hI z0
                  have k3 := keep_cell hI z1
                  have k4 := keep_cell hI y0
                  have k5 := keep_cell hI y1
                  have k6 := keep_cell hI y2
                  have k7 := keep_cell hI y3
                  have k8 := keep_cell hI y4
                  have k9 := keep_cell hI y5
                  have k10 := keep_cell hI y6
                  have k11 := keep_cell hI t0
                  have k12 := keep_cell hI t1
                  have k13 := keep_cell hI t2
                  have k14 := keep_cell hI t3
                  have k15 := keep_cell hI t4
                  have k16 := keep_cell hI t5
                  have k17 := keep_cell hI t6
                  have HI := Lib.hid hI
                  clear hI hst hR
                  rw [e19]
                  clear e19
                  go_wp2
                  exact ⟨rfl, _, rfl, rfl, HI.out, fun _ _ h => h⟩
              case hend =>
                intro u w' hI hR
                simp only [setAll, List.set_cons_zero, List.set_cons_succ]
                have e10 : u 10 = _ := hR 10 (by decide)
                have e12 : u 12 = _ := hR 12 (by decide)
                have e20 : u 20 = _ := hR 20 (by decide)
                rw [e10, e12, e20]
                have N0 := Lib.hid (SlR.below mrR_fits M0.out hI)
                have N1 := Lib.hid (SlR.below intR_fits GDb.out hI)
                have N2 := Lib.hid (SlR.below intR_fits GLb.out hI)
                have HB7 := Lib.hid (HB.out.trans (hI.mono HB.out.size))
                clear hR hst hI e10 e12 e20 x0 x2 z0 z1 y0 y1 y2 y3 y4 y5 y6 t0 t1 t2 t3 t4 t5 t6
                by_cases hs : sa = sb
                · have hs' : (sa == sb) = true := by simp [hs]
                  have HS := Lib.hid hs
                  clear hs
                  go_wp2_with fail
                  refine (sReqSlave_ok _ c.map fp0 rb _ _ df5 lf5 HM.out RB.out _ N0.out N1.out N2.out).mono ?_
                  rw [SB.out]
                  rintro e w7 ⟨rfl, b7⟩
                  have HB8 := Lib.hid (HB7.out.trans (b7.mono HB7.out.size))
                  clear b7
                  go_wp2
                  go_ret
                  refine ⟨ret_bool ?_, B.out.trans (HB8.out.mono B.out.size)⟩
                  rw [HF.out]
                  refine (apartAll_no hlt hek ?_).symm
                  rw [HP1.out, List.any_eq_true]
                  refine ⟨ra, by rw [HRA.out]; exact List.getElem_mem i4, ?_⟩
                  rw [HP0.out]
                  exact asksOf_yes i5 (by rw [← HRB.out, SA.out, SB.out, HS.out])
                · have hs' : (sa == sb) = false := by simp [hs]
                  have HS := Lib.hid hs
                  clear hs
                  go_wp2_with fail
                  refine (sReqSlave_ok _ c.map fp0 rb _ _ df5 lf5 HM.out RB.out _ N0.out N1.out N2.out).mono ?_
                  rw [SB.out]
                  rintro e w7 ⟨rfl, b7⟩
                  have HB8 := Lib.hid (HB7.out.trans (b7.mono HB7.out.size))
                  clear b7
                  go_wp2
                  go_roundw
                  case rel => exact ⟨q + 1, by omega, by go_num, fun t h ht => (by
                    by_cases e : t = q
                    · subst e; rw [← HRB.out, SA.out, SB.out]; exact HS.out
                    · exact HU.out t h (by omega)), HB8.out⟩
                  case measure => simp [intOf]; omega
            · clear r3 hbel hu
              go_wp2
              go_roundw
              case rel => exact ⟨j + 1, by omega, by go_num, fun t h ht => (by
                by_cases e : t = j
                · subst e
                  rw [HP0.out, ← HRA.out]
                  exact asksOf_no fun i hi => HU.out i hi (by rw [hn3.out] at hi; omega)
                · exact HQ.out t h (by omega)), HB.out⟩
              case measure => simp [intOf]; omega
        · clear r3 r4
          go_wp2
          go_roundw
          case rel => exact ⟨k + 1, by omega, by go_num, fun t h hn => (by
            by_cases e : t = k
            · subst e
              rw [HP1.out, List.any_eq_false]
              intro x hx
              obtain ⟨s, hs, rfl⟩ := List.mem_iff_getElem.1 hx
              rw [HQ.out s hs (by rw [hn4.out] at hs; omega)]
              simp
            · exact HP.out t (by omega) hn), HB.out⟩
          case measure => simp [intOf]; omega
    · clear r r3 hbel
      go_wp2
      go_ret
      exact ⟨ret_bool (by rw [HF.out]; exact (apartAll_yes fun t h hn => HP.out t (by omega) hn).symm), B.out.trans (HB.out.mono B.out.size)⟩

end Go.Proofs.Ytmmojgopeaelcaa
