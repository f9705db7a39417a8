/-
  Whether two things that happen are apart: impl's apart (and its literal).
-/
import Derived.Test.YtmcjklicepaiaaaQApart
namespace Go.Proofs.Ytmcjklicepaiaaa
set_option linter.unusedVariables false
set_option linter.unusedSimpArgs false
open Go.RowKit Go.ChangeShapes

/-- a number is on the list -/
def inL (m : List Int) (x : Int) : Bool := m.contains x

theorem inOther_any (cb : Nat) (m : List Int) (mv : Value) (mf : List Nat) (x : Int) (w : World) (hc : w.cell? ⟨cb, 0, none⟩ = some mv) (g : SlR 1 intR w m mv mf) :
    Calls Try.prog 115 #[.int .i64 x, .pointer (some ⟨cb, 0, none⟩)] w fun e w' => e = .returned (.bool (inL m x)) ∧ Below w.heap.size w w' := by
  obtain ⟨a, n, c, rfl, _⟩ := g.form
  have G := Lib.hid g
  clear g
  go_enter Try.func115, Try.ntmps115
  go_wp2_with fail
  refine (contains_int _ m mf x _ G.out).mono ?_
  rintro e w' ⟨rfl, rfl⟩
  go_wp2
  go_ret
  exact ⟨ret_bool (by simp [inL]), Below.refl _ _⟩

theorem indexIn (cb : Nat) (m : List Int) (mv : Value) (mf : List Nat) (v : Value) (l : List Int) (fp : List Nat) (w : World) (hcap0 : w.cell? ⟨cb, 0, none⟩ = some mv) (hcap1 : SlR 1 intR w m mv mf) (g : SlR 1 intR w l v fp) :
    Calls Try.prog 108 #[v, .func (.func 115) #[] #[.pointer (some ⟨cb, 0, none⟩)]] w fun e w' => e = .returned (.int .i64 (idxOf (inL m) l)) ∧ Below w.heap.size w w' := by
  obtain ⟨a, n, c, rfl, hn, hcap, hmax, hcm, r⟩ := g.opened
  have G := Lib.hid g
  clear g
  go_enter Try.func108, Try.ntmps108
  go_wp2_with fail
  go_loopw [8] (fun i wr => ∃ k : Nat, k ≤ n ∧ i = .int .i64 k ∧ (∀ j (h : j < l.length), j < k → (inL m) l[j] = false) ∧ Below w.heap.size w wr) (fun i _ => n - (intOf i).toNat)
  case atStart => exact ⟨0, Nat.zero_le _, rfl, fun j _ h => absurd h (Nat.not_lt_zero j), Below.refl _ _⟩
  case round =>
    obtain ⟨k, hk, rfl, hp, hb⟩ := hrel
    have HP := Lib.hid hp
    have HB := Lib.hid hb
    clear hp
    by_cases hlt : k < n
    · obtain ⟨i1, b1, o1, f1, cs, rfl, hb1, hbf, hff, hR, e1⟩ := r k hlt
      have HR := Lib.hid hR
      obtain ⟨rfl, rfl⟩ := hR
      have c0 := (hb.cell (p := ⟨b1, o1 + k * 1 + 0, none⟩) hb1).trans (e1 0 (by simp))
      simp only [Nat.mul_one, Nat.add_zero, List.getElem_cons_zero] at c0
      clear r e1 hb hbf hff
      have hk0 := keep_cell HB.out hcap0
      have hk1 := Lib.hid (SlR.below intR_fits hcap1 HB.out)
      go_wp2_with fail
      refine (inOther_any cb m mv mf l[k] _ hk0 hk1.out).mono ?_
      rintro e w2 ⟨rfl, b2⟩
      have HB2 := Lib.hid (HB.out.trans (b2.mono HB.out.size))
      clear b2 c0
      cases hq : (inL m) l[k]
      · have HQ := Lib.hid hq
        clear hq
        go_wp2
        go_roundw
        case rel => exact ⟨k + 1, by omega, by go_num, fun j h hj => (by
          by_cases e : j = k
          · subst e; exact HQ.out
          · exact HP.out j h (by omega)), HB2.out⟩
        case measure => simp [intOf]; omega
      · have HQ := Lib.hid hq
        clear hq
        go_wp2
        go_ret
        exact ⟨ret_int (idxOf_hit i1 HQ.out (fun j h hj => HP.out j h hj)).symm, HB2.out⟩
    · clear r hb
      go_wp2
      go_ret
      exact ⟨ret_int (idxOf_none (fun j h => HP.out j h (by rw [hn.out] at h; omega))).symm, HB.out⟩

theorem containsIn (cb : Nat) (m : List Int) (mv : Value) (mf : List Nat) (v : Value) (l : List Int) (fp : List Nat) (w : World) (hcap0 : w.cell? ⟨cb, 0, none⟩ = some mv) (hcap1 : SlR 1 intR w m mv mf) (g : SlR 1 intR w l v fp) :
    Calls Try.prog 58 #[v, .func (.func 115) #[] #[.pointer (some ⟨cb, 0, none⟩)]] w fun e w' => e = .returned (.bool (l.any (inL m))) ∧ Below w.heap.size w w' := by
  go_enter Try.func58, Try.ntmps58
  go_wp2_with fail
  refine (indexIn cb m mv mf v l fp _ hcap0 hcap1 g).mono ?_
  rintro e w' ⟨rfl, hb⟩
  have HB := Lib.hid hb
  clear hb
  cases hq : decide (0 ≤ idxOf (inL m) l)
  all_goals
    go_wp2
    go_ret
    exact ⟨ret_bool (by rw [← idxOf_any, hq]), HB.out⟩


set_option maxRecDepth 100000 in
set_option maxHeartbeats 3200000 in
theorem iApart_at (c : Bus) (ka kb : Int) (k i k' i' : Nat) (hk : k < c.progs.length) (hi : i < c.progs[k].length) (hk' : k' < c.progs.length) (hi' : i' < c.progs[k'].length) (v0 v1 v2 : Value) (fp2 : List Nat) (hl : c.progs.length = 3) (w : World) (g2 : SlR 1 (slR 7 reqR) w c.progs v2 fp2) :
    Calls Try.prog 75 #[.agg #[v0, v1, v2], .agg #[.int .i64 ka, .int .i64 k, .int .i64 i], .agg #[.int .i64 kb, .int .i64 k', .int .i64 i']] w fun e' w' => e' = .returned (.bool (apartB c ⟨ka, k, i⟩ ⟨kb, k', i'⟩)) ∧ Below w.heap.size w w' := by
  obtain ⟨w0, hw0⟩ : ∃ w0, w0 = ((w.alloc (.cells #[v0, v1, v2] 38)).alloc (.cells #[.int .i64 ka, .int .i64 k, .int .i64 i] 47)).alloc (.cells #[.int .i64 kb, .int .i64 k', .int .i64 i'] 47) := ⟨_, rfl⟩
  have hb0 : Below w.heap.size w w0 := by
    rw [hw0]
    have h1 := below_alloc w (.cells #[v0, v1, v2] 38)
    have h2 := h1.trans ((below_alloc _ (.cells #[.int .i64 ka, .int .i64 k, .int .i64 i] 47)).mono h1.size)
    exact h2.trans ((below_alloc _ _).mono h2.size)
  have A2 : w0.cell? ⟨w.heap.size, 2, none⟩ = some v2 := by rw [hw0]; exact alloc_keep (alloc_keep (alloc1_new _ _ _ 2 rfl) _) _
  have E0 : w0.cell? ⟨w.heap.size + 1, 0, none⟩ = some (.int .i64 ka) := by rw [hw0]; exact alloc_keep (alloc2_new _ _ _ _ _ 0 rfl) _
  have E1 : w0.cell? ⟨w.heap.size + 1, 1, none⟩ = some (.int .i64 k) := by rw [hw0]; exact alloc_keep (alloc2_new _ _ _ _ _ 1 rfl) _
  have E2 : w0.cell? ⟨w.heap.size + 1, 2, none⟩ = some (.int .i64 i) := by rw [hw0]; exact alloc_keep (alloc2_new _ _ _ _ _ 2 rfl) _
  have F0 : w0.cell? ⟨w.heap.size + 1 + 1, 0, none⟩ = some (.int .i64 kb) := by rw [hw0]; exact alloc3_new _ _ _ _ _ _ 0 rfl
  have F1 : w0.cell? ⟨w.heap.size + 1 + 1, 1, none⟩ = some (.int .i64 k') := by rw [hw0]; exact alloc3_new _ _ _ _ _ _ 1 rfl
  have F2 : w0.cell? ⟨w.heap.size + 1 + 1, 2, none⟩ = some (.int .i64 i') := by rw [hw0]; exact alloc3_new _ _ _ _ _ _ 2 rfl
  have B := Lib.hid hb0
  have G := Lib.hid (SlR.below (slR_fits reqR_fits) g2 hb0)
  clear g2 hb0
  by_cases hs : k = k'
  · subst hs
    have HO := Lib.hid (apartB_same (c := c) (a := ⟨ka, k, i⟩) (b := ⟨kb, k, i'⟩) rfl)
    go_enter Try.func75, Try.ntmps75
    go_upto_region 1 with fail
    rw [← hw0]
    clear hw0
    go_wp2
    go_ret
    exact ⟨ret_bool HO.out.symm, B.out⟩
  · have hsn : ((k : Int) == (k' : Int)) = false := by rw [beq_eq_false_iff_ne]; omega
    by_cases h33 : ka = 3 ∧ kb = 3
    · obtain ⟨rfl, rfl⟩ := h33
      have HO := Lib.hid (apartB_told (c := c) (a := ⟨3, k, i⟩) (b := ⟨3, k', i'⟩) rfl rfl)
      go_enter Try.func75, Try.ntmps75
      go_upto_region 1 with fail
      rw [← hw0]
      clear hw0
      go_wp2
      go_ret
      exact ⟨ret_bool HO.out.symm, B.out⟩
    · have h3 : ((ka == 3) = false) ∨ ((ka == 3) = true ∧ (kb == 3) = false) := by
        by_cases e : ka = 3
        · exact .inr ⟨by simp [e], by simpa using fun e' => h33 ⟨e, e'⟩⟩
        · exact .inl (by simpa using e)
      by_cases h22 : ka = 2 ∧ kb = 2
      · obtain ⟨rfl, rfl⟩ := h22
        have HO := Lib.hid (apartB_do hs hk hi hk' hi')
        obtain ⟨a2, n2, c2, rfl, hn2, _, _, _, r⟩ := G.out.opened
        have hn3 : 3 = n2 := by rw [← hn2.out, hl]
        subst hn3
        obtain ⟨i1, b1, o1, f1, cs, rfl, hb1, _, _, ⟨y, rfl, hy⟩, e1⟩ := r k (by omega)
        have c0 := e1 0 (by simp)
        obtain ⟨i2, b2, o2, f2, cs, e2, hb2, _, _, ⟨y', rfl, hy'⟩, e3⟩ := r k' (by omega)
        obtain ⟨rfl, rfl⟩ : b1 = b2 ∧ o1 = o2 := by simpa using e2
        have d0 := e3 0 (by simp)
        simp only [Nat.mul_one, Nat.add_zero, List.getElem_cons_zero] at c0 d0
        obtain ⟨a3, n3, c3, rfl, hn3, _, _, _, r3⟩ := hy.opened
        obtain ⟨a4, n4, c4, rfl, hn4, _, _, _, r4⟩ := hy'.opened
        obtain ⟨j3, b3, o3, f3, cs, rfl, hb3, _, _, ⟨dv, lv, df, lf, rfl, rfl, hd, hlv⟩, e5⟩ := r3 i (by rw [← hn3.out]; exact hi)
        obtain ⟨j4, b4, o4, f4, cs, rfl, hb4, _, _, ⟨dv', lv', df', lf', rfl, rfl, hd', hlv'⟩, e6⟩ := r4 i' (by rw [← hn4.out]; exact hi')
        have x0 := e5 0 (by simp)
        have x1 := e5 1 (by simp)
        have x2 := e5 2 (by simp)
        have x3 := e5 3 (by simp)
        have x4 := e5 4 (by simp)
        have x5 := e5 5 (by simp)
        have x6 := e5 6 (by simp)
        have y0 := e6 0 (by simp)
        have y1 := e6 1 (by simp)
        have y2 := e6 2 (by simp)
        have y3 := e6 3 (by simp)
        have y4 := e6 4 (by simp)
        have y5 := e6 5 (by simp)
        have y6 := e6 6 (by simp)
        simp only [Nat.add_zero, List.getElem_cons_zero, List.getElem_cons_succ] at x0 x1 x2 x3 x4 x5 x6 y0 y1 y2 y3 y4 y5 y6
        have hk3 : (k : Int) < 3 := by omega
        have hk3' : (k' : Int) < 3 := by omega
        have hi3 : (i : Int) < (n3 : Int) := by have := hn3.out; omega
        have hi4 : (i' : Int) < (n4 : Int) := by have := hn4.out; omega
        obtain ⟨ra, hra⟩ : ∃ q, q = c.progs[k][i] := ⟨_, rfl⟩
        obtain ⟨rb, hrb⟩ : ∃ q, q = c.progs[k'][i'] := ⟨_, rfl⟩
        simp only [← hra, ← hrb] at x0 x1 x2 x3 x4 x5 x6 y0 y1 y2 y3 y4 y5 y6 HO
        clear r r3 r4 e1 e2 e3 e5 e6 hy hy' hd hlv hd' hlv' h3 h33 hra hrb j3 j4
        go_enter Try.func75, Try.ntmps75
        go_upto_region 1 with fail
        rw [← hw0]
        clear hw0
        go_wp2_with fail
        have hst : ∀ F, F ∈ [FEq (.pointer (some ⟨w.heap.size, 2, none⟩)), FEq (.slice (some ⟨b1, o1, none⟩) 3 c2), FEq (.pointer (some ⟨w.heap.size + 1 + 1, 1, none⟩)), FEq (.int .i64 (k' : Int)), FEq (.pointer (some ⟨b1, o1 + k', none⟩)), FEq (.slice (some ⟨b4, o4, none⟩) n4 c4), FEq (.pointer (some ⟨w.heap.size + 1 + 1, 2, none⟩)), FEq (.int .i64 (i' : Int)), FEq (.pointer (some ⟨b4, o4 + i' * 7, none⟩)), FEq (.agg #[.int .i64 rb.id, .int .i64 rb.kind, .int .i64 rb.addr, .int .i64 rb.many, .bool rb.wrap, dv', lv']), FSlR 1 intR (burstOf rb), FBlk1 w0.heap.size (.slice none 0 0)] → Stable [] F := by
          simp only [List.forall_mem_cons]
          exact ⟨stEq _ _, stEq _ _, stEq _ _, stEq _ _, stEq _ _, stEq _ _, stEq _ _, stEq _ _, stEq _ _, stEq _ _, stSlR intR_fits _, stBlk1 _ _, fun _ h => by simp at h⟩
        refine wp_region_tail (by kernel_rfl) (fun i => ([[], [0], [], [2], [0, 1, 2, 3], [0, 1, 2, 3, 4], [], [6], [0, 1, 2, 3, 4, 5, 6, 7], [0, 1, 2, 3, 4, 5, 6, 7, 8], [0, 1, 2, 3, 4, 5, 6, 7, 8, 9], [], [0, 1, 2, 3, 4, 5, 6, 7, 8, 9, 10, 11]] : List (List Nat)).getD i []) (facts [FEq (.pointer (some ⟨w.heap.size, 2, none⟩)), FEq (.slice (some ⟨b1, o1, none⟩) 3 c2), FEq (.pointer (some ⟨w.heap.size + 1 + 1, 1, none⟩)), FEq (.int .i64 (k' : Int)), FEq (.pointer (some ⟨b1, o1 + k', none⟩)), FEq (.slice (some ⟨b4, o4, none⟩) n4 c4), FEq (.pointer (some ⟨w.heap.size + 1 + 1, 2, none⟩)), FEq (.int .i64 (i' : Int)), FEq (.pointer (some ⟨b4, o4 + i' * 7, none⟩)), FEq (.agg #[.int .i64 rb.id, .int .i64 rb.kind, .int .i64 rb.addr, .int .i64 rb.many, .bool rb.wrap, dv', lv']), FSlR 1 intR (burstOf rb), FBlk1 w0.heap.size (.slice none 0 0)]) (fun m w' => Below w0.heap.size w0 w') 56 13 12 [some 31, some 32, some 33, some 34, some 35, some 36, some 37, some 38, some 39, some 40, some 41, some 7] _ rfl rfl (by decide) rfl rfl (by kernel_rfl) (by kernel_rfl) [] (by kernel_rfl) (fun g b hm v w h => by simp at hm) ?h0 (all_lt (n := 12) ?hop) ?hend
        case h0 => exact (Below.refl _ _).drew
        case hop =>
          refine ⟨⟨⟨⟨⟨⟨⟨⟨⟨⟨⟨⟨trivial, ?_⟩, ?_⟩, ?_⟩, ?_⟩, ?_⟩, ?_⟩, ?_⟩, ?_⟩, ?_⟩, ?_⟩, ?_⟩, ?_⟩
          · refine Owes.mk _ rfl rfl (fun _ _ h => by cases h) fun u m w' hm hI hR => ⟨⟨#[undef, undef, undef, .pointer (some ⟨w.heap.size, 0, none⟩), undef, undef, undef, undef, undef, undef, undef, undef, undef, undef, undef, undef, undef, undef, undef, undef, undef, undef, undef, undef, undef, undef, undef, undef, undef, undef, undef, undef, undef, undef, undef, undef, undef, undef, undef, undef, undef, undef, undef, undef, undef, undef, undef, undef, undef, undef, undef, undef, undef, undef, undef, undef], []⟩, rfl, fun d hd => by cases hd; exact (by decide : 31 < 56), ?_⟩
            have k0 := keep_cell hI A2
            have k1 := keep_cell hI E1
            have k2 := keep_cell hI E2
            have k3 := keep_cell hI F1
            have k4 := keep_cell hI F2
            have k5 := keep_cell hI c0
            have k6 := keep_cell hI d0
            have k7 := keep_cell hI x0
            have k8 := keep_cell hI x1
            have k9 := keep_cell hI x2
            have k10 := keep_cell hI x3
            have k11 := keep_cell hI x4
            have k12 := keep_cell hI x5
            have k13 := keep_cell hI x6
            have k14 := keep_cell hI y0
            have k15 := keep_cell hI y1
            have k16 := keep_cell hI y2
            have k17 := keep_cell hI y3
            have k18 := keep_cell hI y4
            have k19 := keep_cell hI y5
            have k20 := keep_cell hI y6
            have HI := Lib.hid hI
            clear hI hst hR
            go_wp2
            exact ⟨rfl, _, rfl, rfl, HI.out, fun _ _ h => h⟩
          · refine Owes.mk _ rfl rfl (fun _ _ h => by cases h) fun u m w' hm hI hR => ⟨⟨#[undef, undef, undef, undef, undef, undef, undef, undef, undef, undef, undef, undef, undef, undef, undef, undef, undef, undef, undef, undef, undef, undef, undef, undef, undef, undef, undef, undef, undef, undef, undef, u 0, undef, undef, undef, undef, undef, undef, undef, undef, undef, undef, undef, undef, undef, undef, undef, undef, undef, undef, undef, undef, undef, undef, undef, undef], []⟩, rfl, fun d hd => by cases hd; exact (by decide : 32 < 56), ?_⟩
            have e0 : u 0 = _ := hR 0 (by decide)
            have k0 := keep_cell hI A2
            have k1 := keep_cell hI E1
            have k2 := keep_cell hI E2
            have k3 := keep_cell hI F1
            have k4 := keep_cell hI F2
            have k5 := keep_cell hI c0
            have k6 := keep_cell hI d0
            have k7 := keep_cell hI x0
            have k8 := keep_cell hI x1
            have k9 := keep_cell hI x2
            have k10 := keep_cell hI x3
            have k11 := keep_cell hI x4
            have k12 := keep_cell hI x5
            have k13 := keep_cell hI x6
            have k14 := keep_cell hI y0
            have k15 := keep_cell hI y1
            have k16 := keep_cell hI y2
            have k17 := keep_cell hI y3
            have k18 := keep_cell hI y4
            have k19 := keep_cell hI y5
            have k20 := keep_cell hI y6
            have HI := Lib.hid hI
            clear hI hst hR
            rw [e0]
            clear e0
            go_wp2
            exact ⟨rfl, _, rfl, rfl, HI.out, fun _ _ h => h⟩
          · refine Owes.mk _ rfl rfl (fun _ _ h => by cases h) fun u m w' hm hI hR => ⟨⟨#[undef, undef, undef, undef, undef, .pointer (some ⟨w.heap.size + 1 + 1, 0, none⟩), undef, undef, undef, undef, undef, undef, undef, undef, undef, undef, undef, undef, undef, undef, undef, undef, undef, undef, undef, undef, undef, undef, undef, undef, undef, undef, undef, undef, undef, undef, undef, undef, undef, undef, undef, undef, undef, undef, undef, undef, undef, undef, undef, undef, undef, undef, undef, undef, undef, undef], []⟩, rfl, fun d hd => by cases hd; exact (by decide : 33 < 56), ?_⟩
            have k0 := keep_cell hI A2
            have k1 := keep_cell hI E1
            have k2 := keep_cell hI E2
            have k3 := keep_cell hI F1
            have k4 := keep_cell hI F2
            have k5 := keep_cell hI c0
            have k6 := keep_cell hI d0
            have k7 := keep_cell hI x0
            have k8 := keep_cell hI x1
            have k9 := keep_cell hI x2
            have k10 := keep_cell hI x3
            have k11 := keep_cell hI x4
            have k12 := keep_cell hI x5
            have k13 := keep_cell hI x6
            have k14 := keep_cell hI y0
            have k15 := keep_cell hI y1
            have k16 := keep_cell hI y2
            have k17 := keep_cell hI y3
            have k18 := keep_cell hI y4
            have k19 := keep_cell hI y5
            have k20 := keep_cell hI y6
            have HI := Lib.hid hI
            clear hI hst hR
            go_wp2
            exact ⟨rfl, _, rfl, rfl, HI.out, fun _ _ h => h⟩
          · refine Owes.mk _ rfl rfl (fun _ _ h => by cases h) fun u m w' hm hI hR => ⟨⟨#[undef, undef, undef, undef, undef, undef, undef, undef, undef, undef, undef, undef, undef, undef, undef, undef, undef, undef, undef, undef, undef, undef, undef, undef, undef, undef, undef, undef, undef, undef, undef, undef, undef, u 2, undef, undef, undef, undef, undef, undef, undef, undef, undef, undef, undef, undef, undef, undef, undef, undef, undef, undef, undef, undef, undef, undef], []⟩, rfl, fun d hd => by cases hd; exact (by decide : 34 < 56), ?_⟩
            have e2 : u 2 = _ := hR 2 (by decide)
            have k0 := keep_cell hI A2
            have k1 := keep_cell hI E1
            have k2 := keep_cell hI E2
            have k3 := keep_cell hI F1
            have k4 := keep_cell hI F2
            have k5 := keep_cell hI c0
            have k6 := keep_cell hI d0
            have k7 := keep_cell hI x0
            have k8 := keep_cell hI x1
            have k9 := keep_cell hI x2
            have k10 := keep_cell hI x3
            have k11 := keep_cell hI x4
            have k12 := keep_cell hI x5
            have k13 := keep_cell hI x6
            have k14 := keep_cell hI y0
            have k15 := keep_cell hI y1
            have k16 := keep_cell hI y2
            have k17 := keep_cell hI y3
            have k18 := keep_cell hI y4
            have k19 := keep_cell hI y5
            have k20 := keep_cell hI y6
            have HI := Lib.hid hI
            clear hI hst hR
            rw [e2]
            clear e2
            go_wp2
            exact ⟨rfl, _, rfl, rfl, HI.out, fun _ _ h => h⟩
          · refine Owes.mk _ rfl rfl (fun _ _ h => by cases h) fun u m w' hm hI hR => ⟨⟨#[undef, undef, undef, undef, undef, undef, undef, undef, undef, undef, undef, undef, undef, undef, undef, undef, undef, undef, undef, undef, undef, undef, undef, undef, undef, undef, undef, undef, undef, undef, undef, undef, u 1, undef, u 3, undef, undef, undef, undef, undef, undef, undef, undef, undef, undef, undef, undef, undef, undef, undef, undef, undef, undef, undef, undef, undef], []⟩, rfl, fun d hd => by cases hd; exact (by decide : 35 < 56), ?_⟩
            have e1 : u 1 = _ := hR 1 (by decide)
            have e3 : u 3 = _ := hR 3 (by decide)
            have k0 := keep_cell hI A2
            have k1 := keep_cell hI E1
            have k2 := keep_cell hI E2
            have k3 := keep_cell hI F1
            have k4 := keep_cell hI F2
            have k5 := keep_cell hI c0
            have k6 := keep_cell hI d0
            have k7 := keep_cell hI x0
            have k8 := keep_cell hI x1
            have k9 := keep_cell hI x2
            have k10 := keep_cell hI x3
            have k11 := keep_cell hI x4
            have k12 := keep_cell hI x5
            have k13 := keep_cell hI x6
            have k14 := keep_cell hI y0
            have k15 := keep_cell hI y1
            have k16 := keep_cell hI y2
            have k17 := keep_cell hI y3
            have k18 := keep_cell hI y4
            have k19 := keep_cell hI y5
            have k20 := keep_cell hI y6
            have HI := Lib.hid hI
            clear hI hst hR
            rw [e1, e3]
            clear e1 e3
            go_wp2
            exact ⟨rfl, _, rfl, rfl, HI.out, fun _ _ h => h⟩
          · refine Owes.mk _ rfl rfl (fun _ _ h => by cases h) fun u m w' hm hI hR => ⟨⟨#[undef, undef, undef, undef, undef, undef, undef, undef, undef, undef, undef, undef, undef, undef, undef, undef, undef, undef, undef, undef, undef, undef, undef, undef, undef, undef, undef, undef, undef, undef, undef, undef, undef, undef, undef, u 4, undef, undef, undef, undef, undef, undef, undef, undef, undef, undef, undef, undef, undef, undef, undef, undef, undef, undef, undef, undef], []⟩, rfl, fun d hd => by cases hd; exact (by decide : 36 < 56), ?_⟩
            have e4 : u 4 = _ := hR 4 (by decide)
            have k0 := keep_cell hI A2
            have k1 := keep_cell hI E1
            have k2 := keep_cell hI E2
            have k3 := keep_cell hI F1
            have k4 := keep_cell hI F2
            have k5 := keep_cell hI c0
            have k6 := keep_cell hI d0
            have k7 := keep_cell hI x0
            have k8 := keep_cell hI x1
            have k9 := keep_cell hI x2
            have k10 := keep_cell hI x3
            have k11 := keep_cell hI x4
            have k12 := keep_cell hI x5
            have k13 := keep_cell hI x6
            have k14 := keep_cell hI y0
            have k15 := keep_cell hI y1
            have k16 := keep_cell hI y2
            have k17 := keep_cell hI y3
            have k18 := keep_cell hI y4
            have k19 := keep_cell hI y5
            have k20 := keep_cell hI y6
            have HI := Lib.hid hI
            clear hI hst hR
            rw [e4]
            clear e4
            go_wp2
            exact ⟨rfl, _, rfl, rfl, HI.out, fun _ _ h => h⟩
          · refine Owes.mk _ rfl rfl (fun _ _ h => by cases h) fun u m w' hm hI hR => ⟨⟨#[undef, undef, undef, undef, undef, .pointer (some ⟨w.heap.size + 1 + 1, 0, none⟩), undef, undef, undef, undef, undef, undef, undef, undef, undef, undef, undef, undef, undef, undef, undef, undef, undef, undef, undef, undef, undef, undef, undef, undef, undef, undef, undef, undef, undef, undef, undef, undef, undef, undef, undef, undef, undef, undef, undef, undef, undef, undef, undef, undef, undef, undef, undef, undef, undef, undef], []⟩, rfl, fun d hd => by cases hd; exact (by decide : 37 < 56), ?_⟩
            have k0 := keep_cell hI A2
            have k1 := keep_cell hI E1
            have k2 := keep_cell hI E2
            have k3 := keep_cell hI F1
            have k4 := keep_cell hI F2
            have k5 := keep_cell hI c0
            have k6 := keep_cell hI d0
            have k7 := keep_cell hI x0
            have k8 := keep_cell hI x1
            have k9 := keep_cell hI x2
            have k10 := keep_cell hI x3
            have k11 := keep_cell hI x4
            have k12 := keep_cell hI x5
            have k13 := keep_cell hI x6
            have k14 := keep_cell hI y0
            have k15 := keep_cell hI y1
            have k16 := keep_cell hI y2
            have k17 := keep_cell hI y3
            have k18 := keep_cell hI y4
            have k19 := keep_cell hI y5
            have k20 := keep_cell hI y6
            have HI := Lib.hid hI
            clear hI hst hR
            go_wp2
            exact ⟨rfl, _, rfl, rfl, HI.out, fun _ _ h => h⟩
          · refine Owes.mk _ rfl rfl (fun _ _ h => by cases h) fun u m w' hm hI hR => ⟨⟨#[undef, undef, undef, undef, undef, undef, undef, undef, undef, undef, undef, undef, undef, undef, undef, undef, undef, undef, undef, undef, undef, undef, undef, undef, undef, undef, undef, undef, undef, undef, undef, undef, undef, undef, undef, undef, undef, u 6, undef, undef, undef, undef, undef, undef, undef, undef, undef, undef, undef, undef, undef, undef, undef, undef, undef, undef], []⟩, rfl, fun d hd => by cases hd; exact (by decide : 38 < 56), ?_⟩
            have e6 : u 6 = _ := hR 6 (by decide)
            have k0 := keep_cell hI A2
            have k1 := keep_cell hI E1
            have k2 := keep_cell hI E2
            have k3 := keep_cell hI F1
            have k4 := keep_cell hI F2
            have k5 := keep_cell hI c0
            have k6 := keep_cell hI d0
            have k7 := keep_cell hI x0
            have k8 := keep_cell hI x1
            have k9 := keep_cell hI x2
            have k10 := keep_cell hI x3
            have k11 := keep_cell hI x4
            have k12 := keep_cell hI x5
            have k13 := keep_cell hI x6
            have k14 := keep_cell hI y0
            have k15 := keep_cell hI y1
            have k16 := keep_cell hI y2
            have k17 := keep_cell hI y3
            have k18 := keep_cell hI y4
            have k19 := keep_cell hI y5
            have k20 := keep_cell hI y6
            have HI := Lib.hid hI
            clear hI hst hR
            rw [e6]
            clear e6
            go_wp2
            exact ⟨rfl, _, rfl, rfl, HI.out, fun _ _ h => h⟩
          · refine Owes.mk _ rfl rfl (fun _ _ h => by cases h) fun u m w' hm hI hR => ⟨⟨#[undef, undef, undef, undef, undef, undef, undef, undef, undef, undef, undef, undef, undef, undef, undef, undef, undef, undef, undef, undef, undef, undef, undef, undef, undef, undef, undef, undef, undef, undef, undef, undef, undef, undef, undef, undef, u 5, undef, u 7, undef, undef, undef, undef, undef, undef, undef, undef, undef, undef, undef, undef, undef, undef, undef, undef, undef], []⟩, rfl, fun d hd => by cases hd; exact (by decide : 39 < 56), ?_⟩
            have e5 : u 5 = _ := hR 5 (by decide)
            have e7 : u 7 = _ := hR 7 (by decide)
            have k0 := keep_cell hI A2
            have k1 := keep_cell hI E1
            have k2 := keep_cell hI E2
            have k3 := keep_cell hI F1
            have k4 := keep_cell hI F2
            have k5 := keep_cell hI c0
            have k6 := keep_cell hI d0
            have k7 := keep_cell hI x0
            have k8 := keep_cell hI x1
            have k9 := keep_cell hI x2
            have k10 := keep_cell hI x3
            have k11 := keep_cell hI x4
            have k12 := keep_cell hI x5
            have k13 := keep_cell hI x6
            have k14 := keep_cell hI y0
            have k15 := keep_cell hI y1
            have k16 := keep_cell hI y2
            have k17 := keep_cell hI y3
            have k18 := keep_cell hI y4
            have k19 := keep_cell hI y5
            have k20 := keep_cell hI y6
            have HI := Lib.hid hI
            clear hI hst hR
            rw [e5, e7]
            clear e5 e7
            go_wp2
            exact ⟨rfl, _, rfl, rfl, HI.out, fun _ _ h => h⟩
          · refine Owes.mk _ rfl rfl (fun _ _ h => by cases h) fun u m w' hm hI hR => ⟨⟨#[undef, undef, undef, undef, undef, undef, undef, undef, undef, undef, undef, undef, undef, undef, undef, undef, undef, undef, undef, undef, undef, undef, undef, undef, undef, undef, undef, undef, undef, undef, undef, undef, undef, undef, undef, undef, undef, undef, undef, u 8, undef, undef, undef, undef, undef, undef, undef, undef, undef, undef, undef, undef, undef, undef, undef, undef], []⟩, rfl, fun d hd => by cases hd; exact (by decide : 40 < 56), ?_⟩
            have e8 : u 8 = _ := hR 8 (by decide)
            have k0 := keep_cell hI A2
            have k1 := keep_cell hI E1
            have k2 := keep_cell hI E2
            have k3 := keep_cell hI F1
            have k4 := keep_cell hI F2
            have k5 := keep_cell hI c0
            have k6 := keep_cell hI d0
            have k7 := keep_cell hI x0
            have k8 := keep_cell hI x1
            have k9 := keep_cell hI x2
            have k10 := keep_cell hI x3
            have k11 := keep_cell hI x4
            have k12 := keep_cell hI x5
            have k13 := keep_cell hI x6
            have k14 := keep_cell hI y0
            have k15 := keep_cell hI y1
            have k16 := keep_cell hI y2
            have k17 := keep_cell hI y3
            have k18 := keep_cell hI y4
            have k19 := keep_cell hI y5
            have k20 := keep_cell hI y6
            have HI := Lib.hid hI
            clear hI hst hR
            rw [e8]
            clear e8
            go_wp2
            exact ⟨rfl, _, rfl, rfl, HI.out, fun _ _ h => h⟩
          · refine Owes.mk _ rfl rfl (fun _ _ h => by cases h) fun u m w' hm hI hR => ⟨⟨#[undef, undef, undef, undef, undef, undef, undef, undef, undef, undef, undef, undef, undef, undef, undef, undef, undef, undef, undef, undef, undef, undef, undef, undef, undef, undef, undef, undef, undef, undef, undef, undef, undef, undef, undef, undef, undef, undef, undef, undef, u 9, undef, undef, undef, undef, undef, undef, undef, undef, undef, undef, undef, undef, undef, undef, undef], []⟩, rfl, fun d hd => by cases hd; exact (by decide : 41 < 56), ?_⟩
            have e9 : u 9 = _ := hR 9 (by decide)
            have k0 := keep_cell hI A2
            have k1 := keep_cell hI E1
            have k2 := keep_cell hI E2
            have k3 := keep_cell hI F1
            have k4 := keep_cell hI F2
            have k5 := keep_cell hI c0
            have k6 := keep_cell hI d0
            have k7 := keep_cell hI x0
            have k8 := keep_cell hI x1
            have k9 := keep_cell hI x2
            have k10 := keep_cell hI x3
            have k11 := keep_cell hI x4
            have k12 := keep_cell hI x5
            have k13 := keep_cell hI x6
            have k14 := keep_cell hI y0
            have k15 := keep_cell hI y1
            have k16 := keep_cell hI y2
            have k17 := keep_cell hI y3
            have k18 := keep_cell hI y4
            have k19 := keep_cell hI y5
            have k20 := keep_cell hI y6
            rw [e9]
            clear e9
            go_wp2_with fail
            refine (burst_any rb _ _ _).mono ?_
            rintro e w7 ⟨v7, f7, rfl, s7, _, b7⟩
            have HX := Lib.hid s7
            have HS := Lib.hid (facts_stable hst (b7.chg []))
            have HI := Lib.hid (hI.trans (b7.mono hI.size))
            clear hI b7 hst hR s7
            go_wp2
            exact ⟨rfl, _, rfl, ⟨_, HX.out⟩, HI.out, HS.out⟩
          · refine Owes.mk _ rfl rfl (fun _ _ h => by cases h) fun u m w' hm hI hR => ⟨⟨#[undef, undef, undef, undef, undef, undef, undef, undef, undef, undef, undef, undef, undef, undef, undef, undef, undef, undef, undef, undef, undef, undef, undef, undef, undef, undef, undef, undef, undef, undef, undef, undef, undef, undef, undef, undef, undef, undef, undef, undef, undef, undef, undef, undef, undef, undef, undef, undef, undef, undef, undef, undef, undef, undef, undef, undef], []⟩, rfl, fun d hd => by cases hd; exact (by decide : 7 < 56), ?_⟩
            have k0 := keep_cell hI A2
            have k1 := keep_cell hI E1
            have k2 := keep_cell hI E2
            have k3 := keep_cell hI F1
            have k4 := keep_cell hI F2
            have k5 := keep_cell hI c0
            have k6 := keep_cell hI d0
            have k7 := keep_cell hI x0
            have k8 := keep_cell hI x1
            have k9 := keep_cell hI x2
            have k10 := keep_cell hI x3
            have k11 := keep_cell hI x4
            have k12 := keep_cell hI x5
            have k13 := keep_cell hI x6
            have k14 := keep_cell hI y0
            have k15 := keep_cell hI y1
            have k16 := keep_cell hI y2
            have k17 := keep_cell hI y3
            have k18 := keep_cell hI y4
            have k19 := keep_cell hI y5
            have k20 := keep_cell hI y6
            have HI := Lib.hid hI
            have HS := Lib.hid (facts_stable hst ((below_alloc w' (.cells #[.slice none 0 0] 24)).chg []))
            clear hI hst hR
            go_wp2
            exact ⟨rfl, _, rfl, ⟨_, rfl, HI.out.size, by simp, alloc1_new _ _ _ 0 rfl, alloc1_free _ _ _ _, noInt_alloc1 _ _ _ _ _⟩, HI.out.trans ((below_alloc _ _).mono HI.out.size), HS.out⟩
        case hend =>
          intro u w' hI hR
          simp only [setAll, List.set_cons_zero, List.set_cons_succ]
          obtain ⟨f5, s5⟩ := hR 10 (by decide)
          obtain ⟨a5, n5, k5, e5⟩ := s5.form
          obtain ⟨q, em, hq1, hq2, q0, z0, hno⟩ := hR 11 (by decide)
          rw [e5] at s5
          rw [e5, em]
          have hcw : Chg [q] w' (w'.setCell ⟨q, 0, none⟩ (.slice a5 n5 k5)) := store_chg _
          obtain ⟨W, hW⟩ : ∃ W, W = w'.setCell ⟨q, 0, none⟩ (.slice a5 n5 k5) := ⟨_, rfl⟩
          have X0 : W.cell? ⟨q, 0, none⟩ = some (.slice a5 n5 k5) := by rw [hW]; exact setSame _ q0
          rw [← hW] at hcw
          obtain ⟨f6, s6⟩ := s5.noInt_chg hno hcw
          have S6 := Lib.hid s6
          have bw : Below w0.heap.size w0 W := ((hI.chg []).trans hcw).home (fun b hb => by simp at hb; omega)
          replace A2 := keep_cell bw A2
          replace E1 := keep_cell bw E1
          replace E2 := keep_cell bw E2
          replace c0 := keep_cell bw c0
          replace x0 := keep_cell bw x0
          replace x1 := keep_cell bw x1
          replace x2 := keep_cell bw x2
          replace x3 := keep_cell bw x3
          replace x4 := keep_cell bw x4
          replace x5 := keep_cell bw x5
          replace x6 := keep_cell bw x6
          replace B := Lib.hid (B.out.trans (bw.mono B.out.size))
          clear hR hst hI bw e5 s5 s6 hq1 hq2 hno hcw d0 y0 y1 y2 y3 y4 y5 y6 F0 F1 F2 E0
          go_wp2_with fail
          rw [← hW]
          clear hW q0 z0 em
          have hst : ∀ F, F ∈ [FEq (.pointer (some ⟨w.heap.size, 2, none⟩)), FEq (.slice (some ⟨b1, o1, none⟩) 3 c2), FEq (.pointer (some ⟨w.heap.size + 1, 1, none⟩)), FEq (.int .i64 (k : Int)), FEq (.pointer (some ⟨b1, o1 + k, none⟩)), FEq (.slice (some ⟨b3, o3, none⟩) n3 c3), FEq (.pointer (some ⟨w.heap.size + 1, 2, none⟩)), FEq (.int .i64 (i : Int)), FEq (.pointer (some ⟨b3, o3 + i * 7, none⟩)), FEq (.agg #[.int .i64 ra.id, .int .i64 ra.kind, .int .i64 ra.addr, .int .i64 ra.many, .bool ra.wrap, dv, lv]), FSlR 1 intR (burstOf ra), FEq (.func (.func 115) #[] #[.pointer (some ⟨q, 0, none⟩)])] → Stable [] F := by
            simp only [List.forall_mem_cons]
            exact ⟨stEq _ _, stEq _ _, stEq _ _, stEq _ _, stEq _ _, stEq _ _, stEq _ _, stEq _ _, stEq _ _, stEq _ _, stSlR intR_fits _, stEq _ _, fun _ h => by simp at h⟩
          refine wp_region_tail (by kernel_rfl) (fun i => ([[], [0], [], [2], [0, 1, 2, 3], [0, 1, 2, 3, 4], [], [6], [0, 1, 2, 3, 4, 5, 6, 7], [0, 1, 2, 3, 4, 5, 6, 7, 8], [0, 1, 2, 3, 4, 5, 6, 7, 8, 9], [], [0, 1, 2, 3, 4, 5, 6, 7, 8, 9, 10, 11], [0, 1, 2, 3, 4, 5, 6, 7, 8, 9, 10, 11, 12], [0, 1, 2, 3, 4, 5, 6, 7, 8, 9, 10, 11, 12, 13]] : List (List Nat)).getD i []) (facts [FEq (.pointer (some ⟨w.heap.size, 2, none⟩)), FEq (.slice (some ⟨b1, o1, none⟩) 3 c2), FEq (.pointer (some ⟨w.heap.size + 1, 1, none⟩)), FEq (.int .i64 (k : Int)), FEq (.pointer (some ⟨b1, o1 + k, none⟩)), FEq (.slice (some ⟨b3, o3, none⟩) n3 c3), FEq (.pointer (some ⟨w.heap.size + 1, 2, none⟩)), FEq (.int .i64 (i : Int)), FEq (.pointer (some ⟨b3, o3 + i * 7, none⟩)), FEq (.agg #[.int .i64 ra.id, .int .i64 ra.kind, .int .i64 ra.addr, .int .i64 ra.many, .bool ra.wrap, dv, lv]), FSlR 1 intR (burstOf ra), FEq (.func (.func 115) #[] #[.pointer (some ⟨q, 0, none⟩)])]) (fun m w' => Below W.heap.size W w') 56 15 12 [some 42, some 43, some 44, some 45, some 46, some 47, some 48, some 49, some 50, some 51, some 52, some 53] _ rfl rfl (by decide) rfl rfl (by kernel_rfl) (by kernel_rfl) [] (by kernel_rfl) (fun g b hm v w h => by simp at hm) ?h0 (all_lt (n := 12) ?hop) ?hend
          case h0 => exact (Below.refl _ _).drew
          case hop =>
            refine ⟨⟨⟨⟨⟨⟨⟨⟨⟨⟨⟨⟨trivial, ?_⟩, ?_⟩, ?_⟩, ?_⟩, ?_⟩, ?_⟩, ?_⟩, ?_⟩, ?_⟩, ?_⟩, ?_⟩, ?_⟩
            · refine Owes.mk _ rfl rfl (fun _ _ h => by cases h) fun u m w' hm hI hR => ⟨⟨#[undef, undef, undef, .pointer (some ⟨w.heap.size, 0, none⟩), undef, undef, undef, undef, undef, undef, undef, undef, undef, undef, undef, undef, undef, undef, undef, undef, undef, undef, undef, undef, undef, undef, undef, undef, undef, undef, undef, undef, undef, undef, undef, undef, undef, undef, undef, undef, undef, undef, undef, undef, undef, undef, undef, undef, undef, undef, undef, undef, undef, undef, undef, undef], []⟩, rfl, fun d hd => by cases hd; exact (by decide : 42 < 56), ?_⟩
              have k0 := keep_cell hI A2
              have k1 := keep_cell hI E1
              have k2 := keep_cell hI E2
              have k3 := keep_cell hI c0
              have k4 := keep_cell hI x0
              have k5 := keep_cell hI x1
              have k6 := keep_cell hI x2
              have k7 := keep_cell hI x3
              have k8 := keep_cell hI x4
              have k9 := keep_cell hI x5
              have k10 := keep_cell hI x6
              have HI := Lib.hid hI
              clear hI hst hR
              go_wp2
              exact ⟨rfl, _, rfl, rfl, HI.out, fun _ _ h => h⟩
            · refine Owes.mk _ rfl rfl (fun _ _ h => by cases h) fun u m w' hm hI hR => ⟨⟨#[undef, undef, undef, undef, undef, undef, undef, undef, undef, undef, undef, undef, undef, undef, undef, undef, undef, undef, undef, undef, undef, undef, undef, undef, undef, undef, undef, undef, undef, undef, undef, undef, undef, undef, undef, undef, undef, undef, undef, undef, undef, undef, u 0, undef, undef, undef, undef, undef, undef, undef, undef, undef, undef, undef, undef, undef], []⟩, rfl, fun d hd => by cases hd; exact (by decide : 43 < 56), ?_⟩
              have e0 : u 0 = _ := hR 0 (by decide)
              have k0 := keep_cell hI A2
              have k1 := keep_cell hI E1
              have k2 := keep_cell hI E2
              have k3 := keep_cell hI c0
              have k4 := keep_cell hI x0
              have k5 := keep_cell hI x1
              have k6 := keep_cell hI x2
              have k7 := keep_cell hI x3
              have k8 := keep_cell hI x4
              have k9 := keep_cell hI x5
              have k10 := keep_cell hI x6
              have HI := Lib.hid hI
              clear hI hst hR
              rw [e0]
              clear e0
              go_wp2
              exact ⟨rfl, _, rfl, rfl, HI.out, fun _ _ h => h⟩
            · refine Owes.mk _ rfl rfl (fun _ _ h => by cases h) fun u m w' hm hI hR => ⟨⟨#[undef, undef, undef, undef, .pointer (some ⟨w.heap.size + 1, 0, none⟩), undef, undef, undef, undef, undef, undef, undef, undef, undef, undef, undef, undef, undef, undef, undef, undef, undef, undef, undef, undef, undef, undef, undef, undef, undef, undef, undef, undef, undef, undef, undef, undef, undef, undef, undef, undef, undef, undef, undef, undef, undef, undef, undef, undef, undef, undef, undef, undef, undef, undef, undef], []⟩, rfl, fun d hd => by cases hd; exact (by decide : 44 < 56), ?_⟩
              have k0 := keep_cell hI A2
              have k1 := keep_cell hI E1
              have k2 := keep_cell hI E2
              have k3 := keep_cell hI c0
              have k4 := keep_cell hI x0
              have k5 := keep_cell hI x1
              have k6 := keep_cell hI x2
              have k7 := keep_cell hI x3
              have k8 := keep_cell hI x4
              have k9 := keep_cell hI x5
              have k10 := keep_cell hI x6
              have HI := Lib.hid hI
              clear hI hst hR
              go_wp2
              exact ⟨rfl, _, rfl, rfl, HI.out, fun _ _ h => h⟩
            · refine Owes.mk _ rfl rfl (fun _ _ h => by cases h) fun u m w' hm hI hR => ⟨⟨#[undef, undef, undef, undef, undef, undef, undef, undef, undef, undef, undef, undef, undef, undef, undef, undef, undef, undef, undef, undef, undef, undef, undef, undef, undef, undef, undef, undef, undef, undef, undef, undef, undef, undef, undef, undef, undef, undef, undef, undef, undef, undef, undef, undef, u 2, undef, undef, undef, undef, undef, undef, undef, undef, undef, undef, undef], []⟩, rfl, fun d hd => by cases hd; exact (by decide : 45 < 56), ?_⟩
              have e2 : u 2 = _ := hR 2 (by decide)
              have k0 := keep_cell hI A2
              have k1 := keep_cell hI E1
              have k2 := keep_cell hI E2
              have k3 := keep_cell hI c0
              have k4 := keep_cell hI x0
              have k5 := keep_cell hI x1
              have k6 := keep_cell hI x2
              have k7 := keep_cell hI x3
              have k8 := keep_cell hI x4
              have k9 := keep_cell hI x5
              have k10 := keep_cell hI x6
              have HI := Lib.hid hI
              clear hI hst hR
              rw [e2]
              clear e2
              go_wp2
              exact ⟨rfl, _, rfl, rfl, HI.out, fun _ _ h => h⟩
            · refine Owes.mk _ rfl rfl (fun _ _ h => by cases h) fun u m w' hm hI hR => ⟨⟨#[undef, undef, undef, undef, undef, undef, undef, undef, undef, undef, undef, undef, undef, undef, undef, undef, undef, undef, undef, undef, undef, undef, undef, undef, undef, undef, undef, undef, undef, undef, undef, undef, undef, undef, undef, undef, undef, undef, undef, undef, undef, undef, undef, u 1, undef, u 3, undef, undef, undef, undef, undef, undef, undef, undef, undef, undef], []⟩, rfl, fun d hd => by cases hd; exact (by decide : 46 < 56), ?_⟩
              have e1 : u 1 = _ := hR 1 (by decide)
              have e3 : u 3 = _ := hR 3 (by decide)
              have k0 := keep_cell hI A2
              have k1 := keep_cell hI E1
              have k2 := keep_cell hI E2
              have k3 := keep_cell hI c0
              have k4 := keep_cell hI x0
              have k5 := keep_cell hI x1
              have k6 := keep_cell hI x2
              have k7 := keep_cell hI x3
              have k8 := keep_cell hI x4
              have k9 := keep_cell hI x5
              have k10 := keep_cell hI x6
              have HI := Lib.hid hI
              clear hI hst hR
              rw [e1, e3]
              clear e1 e3
              go_wp2
              exact ⟨rfl, _, rfl, rfl, HI.out, fun _ _ h => h⟩
            · refine Owes.mk _ rfl rfl (fun _ _ h => by cases h) fun u m w' hm hI hR => ⟨⟨#[undef, undef, undef, undef, undef, undef, undef, undef, undef, undef, undef, undef, undef, undef, undef, undef, undef, undef, undef, undef, undef, undef, undef, undef, undef, undef, undef, undef, undef, undef, undef, undef, undef, undef, undef, undef, undef, undef, undef, undef, undef, undef, undef, undef, undef, undef, u 4, undef, undef, undef, undef, undef, undef, undef, undef, undef], []⟩, rfl, fun d hd => by cases hd; exact (by decide : 47 < 56), ?_⟩
              have e4 : u 4 = _ := hR 4 (by decide)
              have k0 := keep_cell hI A2
              have k1 := keep_cell hI E1
              have k2 := keep_cell hI E2
              have k3 := keep_cell hI c0
              have k4 := keep_cell hI x0
              have k5 := keep_cell hI x1
              have k6 := keep_cell hI x2
              have k7 := keep_cell hI x3
              have k8 := keep_cell hI x4
              have k9 := keep_cell hI x5
              have k10 := keep_cell hI x6
              have HI := Lib.hid hI
              clear hI hst hR
              rw [e4]
              clear e4
              go_wp2
              exact ⟨rfl, _, rfl, rfl, HI.out, fun _ _ h => h⟩
            · refine Owes.mk _ rfl rfl (fun _ _ h => by cases h) fun u m w' hm hI hR => ⟨⟨#[undef, undef, undef, undef, .pointer (some ⟨w.heap.size + 1, 0, none⟩), undef, undef, undef, undef, undef, undef, undef, undef, undef, undef, undef, undef, undef, undef, undef, undef, undef, undef, undef, undef, undef, undef, undef, undef, undef, undef, undef, undef, undef, undef, undef, undef, undef, undef, undef, undef, undef, undef, undef, undef, undef, undef, undef, undef, undef, undef, undef, undef, undef, undef, undef], []⟩, rfl, fun d hd => by cases hd; exact (by decide : 48 < 56), ?_⟩
              have k0 := keep_cell hI A2
              have k1 := keep_cell hI E1
              have k2 := keep_cell hI E2
              have k3 := keep_cell hI c0
              have k4 := keep_cell hI x0
              have k5 := keep_cell hI x1
              have k6 := keep_cell hI x2
              have k7 := keep_cell hI x3
              have k8 := keep_cell hI x4
              have k9 := keep_cell hI x5
              have k10 := keep_cell hI x6
              have HI := Lib.hid hI
              clear hI hst hR
              go_wp2
              exact ⟨rfl, _, rfl, rfl, HI.out, fun _ _ h => h⟩
            · refine Owes.mk _ rfl rfl (fun _ _ h => by cases h) fun u m w' hm hI hR => ⟨⟨#[undef, undef, undef, undef, undef, undef, undef, undef, undef, undef, undef, undef, undef, undef, undef, undef, undef, undef, undef, undef, undef, undef, undef, undef, undef, undef, undef, undef, undef, undef, undef, undef, undef, undef, undef, undef, undef, undef, undef, undef, undef, undef, undef, undef, undef, undef, undef, undef, u 6, undef, undef, undef, undef, undef, undef, undef], []⟩, rfl, fun d hd => by cases hd; exact (by decide : 49 < 56), ?_⟩
              have e6 : u 6 = _ := hR 6 (by decide)
              have k0 := keep_cell hI A2
              have k1 := keep_cell hI E1
              have k2 := keep_cell hI E2
              have k3 := keep_cell hI c0
              have k4 := keep_cell hI x0
              have k5 := keep_cell hI x1
              have k6 := keep_cell hI x2
              have k7 := keep_cell hI x3
              have k8 := keep_cell hI x4
              have k9 := keep_cell hI x5
              have k10 := keep_cell hI x6
              have HI := Lib.hid hI
              clear hI hst hR
              rw [e6]
              clear e6
              go_wp2
              exact ⟨rfl, _, rfl, rfl, HI.out, fun _ _ h => h⟩
            · refine Owes.mk _ rfl rfl (fun _ _ h => by cases h) fun u m w' hm hI hR => ⟨⟨#[undef, undef, undef, undef, undef, undef, undef, undef, undef, undef, undef, undef, undef, undef, undef, undef, undef, undef, undef, undef, undef, undef, undef, undef, undef, undef, undef, undef, undef, undef, undef, undef, undef, undef, undef, undef, undef, undef, undef, undef, undef, undef, undef, undef, undef, undef, undef, u 5, undef, u 7, undef, undef, undef, undef, undef, undef], []⟩, rfl, fun d hd => by cases hd; exact (by decide : 50 < 56), ?_⟩
              have e5 : u 5 = _ := hR 5 (by decide)
              have e7 : u 7 = _ := hR 7 (by decide)
              have k0 := keep_cell hI A2
              have k1 := keep_cell hI E1
              have k2 := keep_cell hI E2
              have k3 := keep_cell hI c0
              have k4 := keep_cell hI x0
              have k5 := keep_cell hI x1
              have k6 := keep_cell hI x2
              have k7 := keep_cell hI x3
              have k8 := keep_cell hI x4
              have k9 := keep_cell hI x5
              have k10 := keep_cell hI x6
              have HI := Lib.hid hI
              clear hI hst hR
              rw [e5, e7]
              clear e5 e7
              go_wp2
              exact ⟨rfl, _, rfl, rfl, HI.out, fun _ _ h => h⟩
            · refine Owes.mk _ rfl rfl (fun _ _ h => by cases h) fun u m w' hm hI hR => ⟨⟨#[undef, undef, undef, undef, undef, undef, undef, undef, undef, undef, undef, undef, undef, undef, undef, undef, undef, undef, undef, undef, undef, undef, undef, undef, undef, undef, undef, undef, undef, undef, undef, undef, undef, undef, undef, undef, undef, undef, undef, undef, undef, undef, undef, undef, undef, undef, undef, undef, undef, undef, u 8, undef, undef, undef, undef, undef], []⟩, rfl, fun d hd => by cases hd; exact (by decide : 51 < 56), ?_⟩
              have e8 : u 8 = _ := hR 8 (by decide)
              have k0 := keep_cell hI A2
              have k1 := keep_cell hI E1
              have k2 := keep_cell hI E2
              have k3 := keep_cell hI c0
              have k4 := keep_cell hI x0
              have k5 := keep_cell hI x1
              have k6 := keep_cell hI x2
              have k7 := keep_cell hI x3
              have k8 := keep_cell hI x4
              have k9 := keep_cell hI x5
              have k10 := keep_cell hI x6
              have HI := Lib.hid hI
              clear hI hst hR
              rw [e8]
              clear e8
              go_wp2
              exact ⟨rfl, _, rfl, rfl, HI.out, fun _ _ h => h⟩
            · refine Owes.mk _ rfl rfl (fun _ _ h => by cases h) fun u m w' hm hI hR => ⟨⟨#[undef, undef, undef, undef, undef, undef, undef, undef, undef, undef, undef, undef, undef, undef, undef, undef, undef, undef, undef, undef, undef, undef, undef, undef, undef, undef, undef, undef, undef, undef, undef, undef, undef, undef, undef, undef, undef, undef, undef, undef, undef, undef, undef, undef, undef, undef, undef, undef, undef, undef, undef, u 9, undef, undef, undef, undef], []⟩, rfl, fun d hd => by cases hd; exact (by decide : 52 < 56), ?_⟩
              have e9 : u 9 = _ := hR 9 (by decide)
              have k0 := keep_cell hI A2
              have k1 := keep_cell hI E1
              have k2 := keep_cell hI E2
              have k3 := keep_cell hI c0
              have k4 := keep_cell hI x0
              have k5 := keep_cell hI x1
              have k6 := keep_cell hI x2
              have k7 := keep_cell hI x3
              have k8 := keep_cell hI x4
              have k9 := keep_cell hI x5
              have k10 := keep_cell hI x6
              rw [e9]
              clear e9
              go_wp2_with fail
              refine (burst_any ra _ _ _).mono ?_
              rintro e w7 ⟨v7, f7, rfl, s7, _, b7⟩
              have HX := Lib.hid s7
              have HS := Lib.hid (facts_stable hst (b7.chg []))
              have HI := Lib.hid (hI.trans (b7.mono hI.size))
              clear hI b7 hst hR s7
              go_wp2
              exact ⟨rfl, _, rfl, ⟨_, HX.out⟩, HI.out, HS.out⟩
            · refine Owes.mk _ rfl rfl (fun _ _ h => by cases h) fun u m w' hm hI hR => ⟨⟨#[undef, undef, undef, undef, undef, undef, undef, .pointer (some ⟨q, 0, none⟩), undef, undef, undef, undef, undef, undef, undef, undef, undef, undef, undef, undef, undef, undef, undef, undef, undef, undef, undef, undef, undef, undef, undef, undef, undef, undef, undef, undef, undef, undef, undef, undef, undef, undef, undef, undef, undef, undef, undef, undef, undef, undef, undef, undef, undef, undef, undef, undef], []⟩, rfl, fun d hd => by cases hd; exact (by decide : 53 < 56), ?_⟩
              have k0 := keep_cell hI A2
              have k1 := keep_cell hI E1
              have k2 := keep_cell hI E2
              have k3 := keep_cell hI c0
              have k4 := keep_cell hI x0
              have k5 := keep_cell hI x1
              have k6 := keep_cell hI x2
              have k7 := keep_cell hI x3
              have k8 := keep_cell hI x4
              have k9 := keep_cell hI x5
              have k10 := keep_cell hI x6
              have HI := Lib.hid hI
              clear hI hst hR
              go_wp2
              exact ⟨rfl, _, rfl, rfl, HI.out, fun _ _ h => h⟩
          case hend =>
            intro u w' hI hR
            simp only [setAll, List.set_cons_zero, List.set_cons_succ]
            obtain ⟨f7, s7⟩ := hR 10 (by decide)
            obtain ⟨a7, n7, k7, e7⟩ := s7.form
            have em : u 11 = _ := hR 11 (by decide)
            rw [e7] at s7
            rw [e7, em]
            replace S6 := Lib.hid (SlR.below intR_fits S6.out hI)
            have S7 := Lib.hid s7
            replace X0 := keep_cell hI X0
            replace B := Lib.hid (B.out.trans (hI.mono B.out.size))
            clear hR hst hI e7 em s7 A2 E1 E2 c0 x0 x1 x2 x3 x4 x5 x6
            go_wp2_with fail
            refine (containsIn q (burstOf rb) _ f6 _ (burstOf ra) f7 _ X0 S6.out S7.out).mono ?_
            rintro e w5 ⟨rfl, b⟩
            replace B := Lib.hid (B.out.trans (b.mono B.out.size))
            clear b
            go_wp2
            go_ret
            exact ⟨ret_bool HO.out.symm, B.out⟩
      · have h2 : ka ≠ 2 ∨ kb ≠ 2 := by
          by_cases e : ka = 2
          · exact .inr fun e' => h22 ⟨e, e'⟩
          · exact .inl e
        have HO := Lib.hid (apartB_not (c := c) (a := ⟨ka, k, i⟩) (b := ⟨kb, k', i'⟩) (by show (k : Int) ≠ (k' : Int); omega) h33 h2)
        have h2' : ((ka != 2) = true) ∨ ((ka != 2) = false ∧ (kb != 2) = true) := by
          by_cases e : ka = 2
          · exact .inr ⟨by simp [e], by simpa using fun e' => h22 ⟨e, e'⟩⟩
          · exact .inl (by simpa using e)
        clear h22 h33 h2
        rcases h3 with h3 | ⟨h3, h3'⟩
        all_goals rcases h2' with h2 | ⟨h2, h2'⟩
        all_goals
          go_enter Try.func75, Try.ntmps75
          go_upto_region 1 with fail
          rw [← hw0]
          clear hw0
          go_wp2
          go_ret
          exact ⟨ret_bool HO.out.symm, B.out⟩

end Go.Proofs.Ytmcjklicepaiaaa
