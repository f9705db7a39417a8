/-
  Whether two lists of what happens are the same but for the order of what is apart: l9All, traced; the reference's TrcSame.
-/
import Derived.Test.YtmmojgopeaelcaaSame
namespace Go.Proofs.Ytmmojgopeaelcaa
set_option linter.unusedVariables false
set_option linter.unusedSimpArgs false
open Go.RowKit Go.ChangeShapes

def badEv (c : Bus) (e : Ev) : Bool := !evOk c e
theorem any_badEv (c : Bus) (l : List Ev) : l.any (badEv c) = !l.all (evOk c) := by
  rw [List.all_eq_not_any_not]; simp only [Bool.not_not]; rfl
theorem traced_no {c : Bus} {l : List Ev} {k : Nat} (h : k < l.length) (hk : evOk c l[k] = false) : tracedB c l = false := by
  unfold tracedB
  have : l.all (evOk c) = false := List.all_eq_false.2 ⟨l[k], List.getElem_mem h, by simp [hk]⟩
  rw [this]; simp
theorem traced_yes {c : Bus} {l : List Ev} (hb : busOk c = true) (hl : l.length ≤ 200) (h : ∀ k (hk : k < l.length), evOk c l[k] = true) : tracedB c l = true := by
  unfold tracedB
  have : l.all (evOk c) = true := List.all_eq_true.2 fun x hx => by
    obtain ⟨k, hk, rfl⟩ := List.mem_iff_getElem.1 hx
    exact h k hk
  rw [this, hb, decide_eq_true hl]; rfl
theorem traced_at {c : Bus} {l : List Ev} (h : tracedB c l = true) : busOk c = true ∧ l.length ≤ 200 ∧ ∀ k (hk : k < l.length), evOk c l[k] = true := by
  unfold tracedB at h
  simp only [Bool.and_eq_true, decide_eq_true_eq, List.all_eq_true] at h
  exact ⟨h.1, h.2.1, fun k hk => h.2.2 _ (List.getElem_mem hk)⟩

set_option maxRecDepth 100000 in
set_option maxHeartbeats 3200000 in
theorem l9All_any (c : Bus) (v0 v1 v2 : Value) (fp0 fp1 fp2 : List Nat) (v : Value) (l : List Ev) (fp : List Nat) (w : World) (g0 : SlR 4 mrR w c.map v0 fp0) (g1 : SlR 1 intR w c.lat v1 fp1) (g2 : SlR 1 (slR 7 reqR) w c.progs v2 fp2) (g : SlR 3 evR w l v fp) :
    Calls Try.prog 94 #[.agg #[v0, v1, v2], v] w fun e' w' => e' = .returned (.bool (tracedB c l)) ∧ Below w.heap.size w w' := by
  obtain ⟨a, n, cap, rfl, hn, hcap, hmax, hcm, r⟩ := g.opened
  have hb := below_alloc w (.cells #[v0, v1, v2] 32)
  have G0 := Lib.hid (SlR.below mrR_fits g0 hb)
  have G1 := Lib.hid (SlR.below intR_fits g1 hb)
  have G2 := Lib.hid (SlR.below (slR_fits reqR_fits) g2 hb)
  have B := Lib.hid hb
  clear hb g0 g1 g2 g
  cases q0 : busOk c
  · have Q0 := Lib.hid q0
    clear q0 r
    go_enter Try.func94, Try.ntmps94
    go_wp2_with fail
    refine (sBusOk_any c _ _ _ fp0 fp1 fp2 _ G0.out G1.out G2.out).mono ?_
    rw [Q0.out]
    rintro e w1 ⟨rfl, b⟩
    replace B := Lib.hid (B.out.trans (b.mono B.out.size))
    clear b
    go_wp2
    go_ret
    exact ⟨ret_bool (by unfold tracedB; rw [Q0.out]; rfl), B.out⟩
  have Q0 := Lib.hid q0
  clear q0
  by_cases hl : n ≤ 200
  · have hl' : decide (200 < (n : Int)) = false := decide_eq_false (by omega)
    go_enter Try.func94, Try.ntmps94
    go_wp2_with fail
    refine (sBusOk_any c _ _ _ fp0 fp1 fp2 _ G0.out G1.out G2.out).mono ?_
    rw [Q0.out]
    rintro e w1 ⟨rfl, b⟩
    have X0 : w1.cell? ⟨w.heap.size, 0, none⟩ = some v0 := keep_cell b (alloc1_new w #[v0, v1, v2] 32 0 rfl)
    have X1 : w1.cell? ⟨w.heap.size, 1, none⟩ = some v1 := keep_cell b (alloc1_new w #[v0, v1, v2] 32 1 rfl)
    have X2 : w1.cell? ⟨w.heap.size, 2, none⟩ = some v2 := keep_cell b (alloc1_new w #[v0, v1, v2] 32 2 rfl)
    replace G2 := Lib.hid (SlR.below (slR_fits reqR_fits) G2.out b)
    replace B := Lib.hid (B.out.trans (b.mono B.out.size))
    clear b G0 G1
    go_wp2_with fail
    go_loopw [5] (fun i wr => ∃ k : Nat, k ≤ n ∧ i = .int .i64 k ∧ (∀ j (h : j < l.length), j < k → evOk c l[j] = true) ∧ Below w1.heap.size w1 wr) (fun i _ => n - (intOf i).toNat)
    case atStart => exact ⟨0, Nat.zero_le _, rfl, fun j _ h => absurd h (Nat.not_lt_zero j), Below.refl _ _⟩
    case round =>
      obtain ⟨k, hk, rfl, hp, hbel⟩ := hrel
      have HP := Lib.hid hp
      have HB := Lib.hid hbel
      clear hp
      by_cases hlt : k < n
      · obtain ⟨i1, b1, o1, f1, cs, rfl, hb1, _, _, ⟨rfl, rfl⟩, e1⟩ := r k hlt
        have bw := B.out.trans (hbel.mono B.out.size)
        have c0 := keep_cell bw (e1 0 (by simp))
        have c1 := keep_cell bw (e1 1 (by simp))
        have c2 := keep_cell bw (e1 2 (by simp))
        simp only [Nat.add_zero, List.getElem_cons_zero, List.getElem_cons_succ] at c0 c1 c2
        have x0 := keep_cell hbel X0
        have x1 := keep_cell hbel X1
        have x2 := keep_cell hbel X2
        have GG := Lib.hid (SlR.below (slR_fits reqR_fits) G2.out hbel)
        obtain ⟨z, hz⟩ : ∃ z, evOk c l[k] = z := ⟨_, rfl⟩
        have HZ := Lib.hid hz
        clear r e1 hbel bw X0 X1 X2 hz
        go_wp2_with fail
        have hst : ∀ F, F ∈ [FEq (.agg #[v0, v1, v2]), FEq (.slice (some ⟨b1, o1, none⟩) n cap), FEq (.int .i64 (k : Int)), FEq (.pointer (some ⟨b1, o1 + k * 3, none⟩)), FEq (.agg #[.int .i64 l[k].kind, .int .i64 l[k].who, .int .i64 l[k].n])] → Stable [] F := by
          simp only [List.forall_mem_cons]
          exact ⟨stEq _ _, stEq _ _, stEq _ _, stEq _ _, stEq _ _, fun _ h => by simp at h⟩
        refine wp_region_tail (by kernel_rfl) (fun i => ([[], [], [], [1, 2], [1, 2, 3], [0, 1, 2, 3, 4], [0, 1, 2, 3, 4, 5]] : List (List Nat)).getD i []) (facts [FEq (.agg #[v0, v1, v2]), FEq (.slice (some ⟨b1, o1, none⟩) n cap), FEq (.int .i64 (k : Int)), FEq (.pointer (some ⟨b1, o1 + k * 3, none⟩)), FEq (.agg #[.int .i64 l[k].kind, .int .i64 l[k].who, .int .i64 l[k].n])]) (fun m w' => Below wr.heap.size wr w') 27 7 5 [some 20, some 21, some 22, some 23, some 24] _ rfl rfl (by decide) rfl rfl (by kernel_rfl) (by kernel_rfl) [] (by kernel_rfl) (fun g b hm v w h => by simp at hm) ?h0 (all_lt (n := 5) ?hop) ?hend
        case h0 => exact (Below.refl _ _).drew
        case hop =>
          refine ⟨⟨⟨⟨⟨trivial, ?_⟩, ?_⟩, ?_⟩, ?_⟩, ?_⟩
          · refine Owes.mk _ rfl rfl (fun _ _ h => by cases h) fun u m w' hm hI hR => ⟨⟨#[undef, undef, .pointer (some ⟨w.heap.size, 0, none⟩), undef, undef, undef, undef, undef, undef, undef, undef, undef, undef, undef, undef, undef, undef, undef, undef, undef, undef, undef, undef, undef, undef, undef, undef], []⟩, rfl, fun d hd => by cases hd; exact (by decide : 20 < 27), ?_⟩
            have k0 := keep_cell hI c0
            have k1 := keep_cell hI c1
            have k2 := keep_cell hI c2
            have k3 := keep_cell hI x0
            have k4 := keep_cell hI x1
            have k5 := keep_cell hI x2
            have HI := Lib.hid hI
            clear hI hst hR
            go_wp2
            exact ⟨rfl, _, rfl, rfl, HI.out, fun _ _ h => h⟩
          · refine Owes.mk _ rfl rfl (fun _ _ h => by cases h) fun u m w' hm hI hR => ⟨⟨#[undef, .slice (some ⟨b1, o1, none⟩) n cap, undef, undef, undef, undef, undef, undef, undef, undef, undef, undef, undef, undef, undef, undef, undef, undef, undef, undef, undef, undef, undef, undef, undef, undef, undef], []⟩, rfl, fun d hd => by cases hd; exact (by decide : 21 < 27), ?_⟩
            have k0 := keep_cell hI c0
            have k1 := keep_cell hI c1
            have k2 := keep_cell hI c2
            have k3 := keep_cell hI x0
            have k4 := keep_cell hI x1
            have k5 := keep_cell hI x2
            have HI := Lib.hid hI
            clear hI hst hR
            go_wp2
            exact ⟨rfl, _, rfl, rfl, HI.out, fun _ _ h => h⟩
          · refine Owes.mk _ rfl rfl (fun _ _ h => by cases h) fun u m w' hm hI hR => ⟨⟨#[undef, undef, undef, undef, undef, .int .i64 (k : Int), undef, undef, undef, undef, undef, undef, undef, undef, undef, undef, undef, undef, undef, undef, undef, undef, undef, undef, undef, undef, undef], []⟩, rfl, fun d hd => by cases hd; exact (by decide : 22 < 27), ?_⟩
            have k0 := keep_cell hI c0
            have k1 := keep_cell hI c1
            have k2 := keep_cell hI c2
            have k3 := keep_cell hI x0
            have k4 := keep_cell hI x1
            have k5 := keep_cell hI x2
            have HI := Lib.hid hI
            clear hI hst hR
            go_wp2
            exact ⟨rfl, _, rfl, rfl, HI.out, fun _ _ h => h⟩
          · refine Owes.mk _ rfl rfl (fun _ _ h => by cases h) fun u m w' hm hI hR => ⟨⟨#[undef, undef, undef, undef, undef, undef, undef, undef, undef, undef, undef, undef, undef, undef, undef, undef, undef, undef, undef, undef, undef, u 1, u 2, undef, undef, undef, undef], []⟩, rfl, fun d hd => by cases hd; exact (by decide : 23 < 27), ?_⟩
            have e1 : u 1 = _ := hR 1 (by decide)
            have e2 : u 2 = _ := hR 2 (by decide)
            have k0 := keep_cell hI c0
            have k1 := keep_cell hI c1
            have k2 := keep_cell hI c2
            have k3 := keep_cell hI x0
            have k4 := keep_cell hI x1
            have k5 := keep_cell hI x2
            have HI := Lib.hid hI
            clear hI hst hR
            rw [e1, e2]
            clear e1 e2
            go_wp2
            exact ⟨rfl, _, rfl, rfl, HI.out, fun _ _ h => h⟩
          · refine Owes.mk _ rfl rfl (fun _ _ h => by cases h) fun u m w' hm hI hR => ⟨⟨#[undef, undef, undef, undef, undef, undef, undef, undef, undef, undef, undef, undef, undef, undef, undef, undef, undef, undef, undef, undef, undef, undef, undef, u 3, undef, undef, undef], []⟩, rfl, fun d hd => by cases hd; exact (by decide : 24 < 27), ?_⟩
            have e3 : u 3 = _ := hR 3 (by decide)
            have k0 := keep_cell hI c0
            have k1 := keep_cell hI c1
            have k2 := keep_cell hI c2
            have k3 := keep_cell hI x0
            have k4 := keep_cell hI x1
            have k5 := keep_cell hI x2
            have HI := Lib.hid hI
            clear hI hst hR
            rw [e3]
            clear e3
            go_wp2
            exact ⟨rfl, _, rfl, rfl, HI.out, fun _ _ h => h⟩
        case hend =>
          intro u w' hI hR
          simp only [setAll, List.set_cons_zero, List.set_cons_succ]
          have e0 : u 0 = _ := hR 0 (by decide)
          have e4 : u 4 = _ := hR 4 (by decide)
          rw [e0, e4]
          have HB2 := Lib.hid (HB.out.trans (hI.mono HB.out.size))
          have GG2 := Lib.hid (SlR.below (slR_fits reqR_fits) GG.out hI)
          clear hR hst hI e0 e4 c0 c1 c2 x0 x1 x2
          cases z
          all_goals
            go_wp2_with fail
            refine (sDoes_any c l[k] _ _ _ fp2 (busOk_progs Q0.out) _ GG2.out).mono ?_
            rw [HZ.out]
            rintro e w3 ⟨rfl, b⟩
            have HB3 := Lib.hid (HB2.out.trans (b.mono HB2.out.size))
            clear b
            go_wp2
          · go_ret
            exact ⟨ret_bool (traced_no i1 HZ.out).symm, B.out.trans (HB3.out.mono B.out.size)⟩
          · go_roundw
            case rel => exact ⟨k + 1, by omega, by go_num, fun j h hj => (by
              by_cases e' : j = k
              · subst e'; exact HZ.out
              · exact HP.out j h (by omega)), HB3.out⟩
            case measure => simp [intOf]; omega
      · clear r hbel
        go_wp2
        go_ret
        exact ⟨ret_bool (traced_yes Q0.out (by rw [hn.out]; exact hl) fun j h => HP.out j h (by rw [hn.out] at h; omega)).symm, B.out.trans (HB.out.mono B.out.size)⟩
  · have hl' : decide (200 < (n : Int)) = true := decide_eq_true (by omega)
    clear r
    go_enter Try.func94, Try.ntmps94
    go_wp2_with fail
    refine (sBusOk_any c _ _ _ fp0 fp1 fp2 _ G0.out G1.out G2.out).mono ?_
    rw [Q0.out]
    rintro e w1 ⟨rfl, b⟩
    replace B := Lib.hid (B.out.trans (b.mono B.out.size))
    clear b
    go_wp2
    go_ret
    exact ⟨ret_bool (by unfold tracedB; rw [Q0.out, decide_eq_false (by rw [hn.out]; exact hl)]; rfl), B.out⟩

theorem badEv_any (cb : Nat) (c : Bus) (hl : c.progs.length = 3) (v0 v1 v2 : Value) (fp2 : List Nat) (e : Ev) (w : World) (x0 : w.cell? ⟨cb, 0, none⟩ = some v0) (x1 : w.cell? ⟨cb, 1, none⟩ = some v1) (x2 : w.cell? ⟨cb, 2, none⟩ = some v2) (g2 : SlR 1 (slR 7 reqR) w c.progs v2 fp2) :
    Calls Try.prog 154 #[.agg #[.int .i64 e.kind, .int .i64 e.who, .int .i64 e.n], .pointer (some ⟨cb, 0, none⟩)] w fun e' w' => e' = .returned (.bool (badEv c e)) ∧ Below w.heap.size w w' := by
  have hb := below_alloc w (.cells #[.int .i64 e.kind, .int .i64 e.who, .int .i64 e.n] 39)
  have G := Lib.hid (SlR.below (slR_fits reqR_fits) g2 hb)
  have y0 := keep_cell hb x0
  have y1 := keep_cell hb x1
  have y2 := keep_cell hb x2
  have B := Lib.hid hb
  have hz := block_of_cell x0
  clear hb g2
  obtain ⟨z, hz'⟩ : ∃ z, evOk c e = z := ⟨_, rfl⟩
  have HZ := Lib.hid hz'
  clear hz'
  go_enter Try.func154, Try.ntmps154
  go_wp2_with fail
  refine (iKind_any c e _ _ _ fp2 hl _ G.out).mono ?_
  rw [HZ.out]
  rintro e w3 ⟨rfl, b⟩
  replace B := Lib.hid (B.out.trans (b.mono B.out.size))
  clear b
  go_wp2
  go_ret
  exact ⟨ret_bool (by unfold badEv; rw [HZ.out]), B.out⟩

theorem indexBadEv (cb : Nat) (bc : Bus) (hl : bc.progs.length = 3) (v0 v1 v2 : Value) (fp2 : List Nat) (v : Value) (l : List Ev) (fp : List Nat) (w : World) (x0 : w.cell? ⟨cb, 0, none⟩ = some v0) (x1 : w.cell? ⟨cb, 1, none⟩ = some v1) (x2 : w.cell? ⟨cb, 2, none⟩ = some v2) (g2 : SlR 1 (slR 7 reqR) w bc.progs v2 fp2) (g : SlR 3 evR w l v fp) :
    Calls Try.prog 155 #[v, .func (.func 154) #[] #[.pointer (some ⟨cb, 0, none⟩)]] w fun e w' => e = .returned (.int .i64 (idxOf (badEv bc) l)) ∧ Below w.heap.size w w' := by
  obtain ⟨a, n, c, rfl, hn, hcap, hmax, hcm, r⟩ := g.opened
  have G := Lib.hid g
  clear g
  go_enter Try.func155, Try.ntmps155
  go_wp2_with fail
  go_loopw [8] (fun i wr => ∃ k : Nat, k ≤ n ∧ i = .int .i64 k ∧ (∀ j (h : j < l.length), j < k → (badEv bc) l[j] = false) ∧ Below w.heap.size w wr) (fun i _ => n - (intOf i).toNat)
  case atStart => exact ⟨0, Nat.zero_le _, rfl, fun j _ h => absurd h (Nat.not_lt_zero j), Below.refl _ _⟩
  case round =>
    obtain ⟨k, hk, rfl, hp, hb⟩ := hrel
    have HP := Lib.hid hp
    have HB := Lib.hid hb
    clear hp
    by_cases hlt : k < n
    · obtain ⟨i1, b1, o1, f1, cs, rfl, hb1, hbf, hff, hR, e1⟩ := r k hlt
      have HR := Lib.hid hR
      obtain ⟨rfl, rfl⟩ := hR
      have c0 := (hb.cell (p := ⟨b1, o1 + k * 3 + 0, none⟩) hb1).trans (e1 0 (by simp))
      have c1 := (hb.cell (p := ⟨b1, o1 + k * 3 + 1, none⟩) hb1).trans (e1 1 (by simp))
      have c2 := (hb.cell (p := ⟨b1, o1 + k * 3 + 2, none⟩) hb1).trans (e1 2 (by simp))
      simp only [Nat.add_zero, List.getElem_cons_zero, List.getElem_cons_succ] at c0 c1 c2
      clear r e1 hb hbf hff
      have y0 := keep_cell HB.out x0
      have y1 := keep_cell HB.out x1
      have y2 := keep_cell HB.out x2
      have G2 := Lib.hid (SlR.below (slR_fits reqR_fits) g2 HB.out)
      go_wp2_with fail
      refine (badEv_any cb bc hl v0 v1 v2 fp2 l[k] _ y0 y1 y2 G2.out).mono ?_
      rintro e w2 ⟨rfl, b2⟩
      have HB2 := Lib.hid (HB.out.trans (b2.mono HB.out.size))
      clear b2 c0 c1 c2
      cases hq : (badEv bc) l[k]
      · have HQ := Lib.hid hq
        clear hq
        go_wp2
        go_roundw
        case rel => exact ⟨k + 1, by omega, by go_num, fun j h hj => (by
          by_cases e : j = k
          · subst e; exact HQ.out
          · exact HP.out j h (by omega)), HB2.out⟩
        case measure => simp [intOf]; omega
      · have HQ := Lib.hid hq
        clear hq
        go_wp2
        go_ret
        exact ⟨ret_int (idxOf_hit i1 HQ.out (fun j h hj => HP.out j h hj)).symm, HB2.out⟩
    · clear r hb
      go_wp2
      go_ret
      exact ⟨ret_int (idxOf_none (fun j h => HP.out j h (by rw [hn.out] at h; omega))).symm, HB.out⟩

theorem containsBadEv (cb : Nat) (bc : Bus) (hl : bc.progs.length = 3) (v0 v1 v2 : Value) (fp2 : List Nat) (v : Value) (l : List Ev) (fp : List Nat) (w : World) (x0 : w.cell? ⟨cb, 0, none⟩ = some v0) (x1 : w.cell? ⟨cb, 1, none⟩ = some v1) (x2 : w.cell? ⟨cb, 2, none⟩ = some v2) (g2 : SlR 1 (slR 7 reqR) w bc.progs v2 fp2) (g : SlR 3 evR w l v fp) :
    Calls Try.prog 98 #[v, .func (.func 154) #[] #[.pointer (some ⟨cb, 0, none⟩)]] w fun e w' => e = .returned (.bool (l.any (badEv bc))) ∧ Below w.heap.size w w' := by
  go_enter Try.func98, Try.ntmps98
  go_wp2_with fail
  refine (indexBadEv cb bc hl v0 v1 v2 fp2 v l fp _ x0 x1 x2 g2 g).mono ?_
  rintro e w' ⟨rfl, hb⟩
  have HB := Lib.hid hb
  clear hb
  cases hq : decide (0 ≤ idxOf (badEv bc) l)
  all_goals
    go_wp2
    go_ret
    exact ⟨ret_bool (by rw [← idxOf_any, hq]), HB.out⟩


set_option maxRecDepth 100000 in
set_option maxHeartbeats 3200000 in
theorem traced_any (c : Bus) (v0 v1 v2 : Value) (fp0 fp1 fp2 : List Nat) (v : Value) (l : List Ev) (fp : List Nat) (w : World) (g0 : SlR 4 mrR w c.map v0 fp0) (g1 : SlR 1 intR w c.lat v1 fp1) (g2 : SlR 1 (slR 7 reqR) w c.progs v2 fp2) (g : SlR 3 evR w l v fp) :
    Calls Try.prog 97 #[.agg #[v0, v1, v2], v] w fun e' w' => e' = .returned (.bool (tracedB c l)) ∧ Below w.heap.size w w' := by
  obtain ⟨a, n, cap, rfl, hn, hcap, hmax, hcm, _⟩ := g.opened
  have hb := below_alloc w (.cells #[v0, v1, v2] 32)
  have G0 := Lib.hid (SlR.below mrR_fits g0 hb)
  have G1 := Lib.hid (SlR.below intR_fits g1 hb)
  have G2 := Lib.hid (SlR.below (slR_fits reqR_fits) g2 hb)
  have G := Lib.hid (SlR.below evR_fits g hb)
  have B := Lib.hid hb
  have HN : Hid (decide (l.length ≤ 200) = decide ((n : Int) ≤ 200)) := Lib.hid (by rw [hn.out]; exact decide_eq_decide.2 (by omega))
  clear hb g0 g1 g2 g hn
  cases q0 : busOk c
  case' true =>
    cases q1 : decide ((n : Int) ≤ 200)
    case' true => cases q2 : l.all (evOk c)
  all_goals
    have Q0 := Lib.hid q0
    (try have Q1 := Lib.hid q1)
    (try have Q2 := Lib.hid q2)
    clear q0
    (try clear q2)
    go_enter Try.func97, Try.ntmps97
    go_wp2_with (first
      | (go_at_call 75; refine (iBusOk_any c _ _ _ fp0 fp1 fp2 _ G0.out G1.out G2.out).mono ?_; rw [Q0.out]; rintro e w2 ⟨rfl, b⟩; replace G2 := Lib.hid (SlR.below (slR_fits reqR_fits) G2.out b); replace G := Lib.hid (SlR.below evR_fits G.out b); have X0 : w2.cell? ⟨w.heap.size, 0, none⟩ = some v0 := keep_cell b (alloc1_new w _ _ 0 rfl); have X1 : w2.cell? ⟨w.heap.size, 1, none⟩ = some v1 := keep_cell b (alloc1_new w _ _ 1 rfl); have X2 : w2.cell? ⟨w.heap.size, 2, none⟩ = some v2 := keep_cell b (alloc1_new w _ _ 2 rfl); replace B := Lib.hid (B.out.trans (b.mono B.out.size)); clear b)
      | (go_at_call 98; refine (containsBadEv w.heap.size c (busOk_progs Q0.out) v0 v1 v2 fp2 _ l fp _ X0 X1 X2 G2.out G.out).mono ?_; rw [any_badEv, Q2.out]; rintro e w3 ⟨rfl, b⟩; replace B := Lib.hid (B.out.trans (b.mono B.out.size)); clear b))
    all_goals go_ret
    all_goals refine ⟨ret_bool ?_, B.out⟩
    all_goals unfold tracedB
    all_goals rw [HN.out, Q0.out]
    all_goals (try rw [Q1.out])
    all_goals (try rw [Q2.out])
    all_goals rfl

end Go.Proofs.Ytmmojgopeaelcaa
