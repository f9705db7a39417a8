/-
  Jobs handed in: sz.., eq.., to.. of one, and of slices of them.
-/
import Derived.Test.YtmmojgopeaelcaaProg
import Derived.Test.YtmmojgopeaelcaaBase
import Derived.Test.YtmmojgopeaelcaaUniRsp
import Derived.OwnWalk
import Derived.KernelRfl
import Derived.WalkSmall
import Derived.Deep.QuietTactic
import Derived.BigQuiet
import Derived.StillTailTactics
namespace Go.Proofs.Ytmmojgopeaelcaa
set_option linter.unusedVariables false
set_option linter.unusedSimpArgs false
open Go.RowKit Go.ChangeShapes

structure Job where
  who : Int
  n : Int
  rsp : Rsp
  deriving DecidableEq

def jobR : Pr Job := fun w x cs fp => ∃ (v0 : Value) (fp0 : List Nat), cs = [.int .i64 x.who, .int .i64 x.n, .int .i64 x.rsp.id, .int .i64 x.rsp.code, v0] ∧ fp = fp0 ∧ SlR 1 intR w x.rsp.data v0 fp0
theorem jobR_fits : Fits 5 jobR := by
  refine ⟨fun ⟨v0, fp0, e, e2, g0⟩ => by rw [e]; rfl, fun ⟨v0, fp0, e, e2, g0⟩ b hb => ?_, fun ⟨v0, fp0, e, e2, g0⟩ hs hz => ⟨v0, fp0, e, e2, g0.same intR_fits (hs.mono (fun b hb => by rw [e2]; simp [hb])) hz⟩⟩
  rw [e2] at hb
  · exact g0.lt intR_fits b hb

set_option maxRecDepth 100000 in
theorem opens_Job : Opens Try.prog 125 jobR := fun {H enc w fuel cs x} h => by
  obtain ⟨xs, n, _, _, hl, hx, hf⟩ := DataW.trod_struct Try.underlying125 h
  have hk : Try.prog.cellsOf 125 = 5 := by kernel_rfl
  have k_int : Try.prog.cellsOf 3 = 1 := by kernel_rfl
  have k_Rsp : Try.prog.cellsOf 123 = 3 := by kernel_rfl
  rw [hk] at hl
  have hx' : xs.length = 3 := hx
  match cs, hl with
  | [c0, c1, c2, c3, c4], _ =>
    obtain ⟨y0, _, e0, _⟩ := opens_int Try.underlying3 ((hf 0 _ rfl).trans (List.getElem?_eq_getElem (by omega)))
    obtain ⟨y1, _, e1, _⟩ := opens_int Try.underlying3 ((hf 1 _ rfl).trans (List.getElem?_eq_getElem (by omega)))
    obtain ⟨y2, _, v0, fp0, e2, _, s0⟩ := opens_Rsp ((hf 2 _ rfl).trans (List.getElem?_eq_getElem (by omega)))
    simp [k_int, k_Rsp] at e0 e1 e2
    subst e0
    subst e1
    obtain ⟨rfl, rfl, rfl⟩ := e2
    exact ⟨⟨y0, y1, y2⟩, _, _, fp0, rfl, rfl, s0⟩

def sm_Job (x : Job) : Prop := sm_Rsp x.rsp

set_option maxRecDepth 100000 in
set_option maxHeartbeats 3200000 in
theorem sz_Job (x : Job) (v0 : Value) (fp0 : List Nat) (left : Int) (h0 : 0 ≤ left) (h1 : left ≤ 1048576) (w : World) (g0 : SlR 1 intR w x.rsp.data v0 fp0) :
    Calls Try.prog 87 #[.agg #[.int .i64 x.who, .int .i64 x.n, .int .i64 x.rsp.id, .int .i64 x.rsp.code, v0], .int .i64 left] w (SzP left (sm_Job x) w) := by
  have hb := below_alloc w (.cells #[.int .i64 x.who, .int .i64 x.n, .int .i64 x.rsp.id, .int .i64 x.rsp.code, v0] 125)
  have G0 := Lib.hid (SlR.below intR_fits g0 hb)
  have B := Lib.hid hb
  clear hb g0
  go_enter Try.func87, Try.ntmps87
  go_wp2_with fail
  refine (sz_Rsp x.rsp _ fp0 left (by omega) (by omega) _ G0.out).mono ?_
  rintro e w1 ⟨z0, rfl, le0, sm0, b⟩
  replace B := Lib.hid (B.out.trans (b.mono B.out.size))
  have S0 := Lib.hid sm0
  clear b sm0 G0
  cases q0 : decide (z0 < 0)
  case' true =>
    skip
    go_wp2
    go_ret
    exact SzP.neg h0 B.out
  have p0 : 0 ≤ z0 := by have := of_decide_eq_false q0; omega
  go_wp2
  go_ret
  exact SzP.pos (by omega) (S0.out (by omega)) B.out

set_option maxRecDepth 100000 in
set_option maxHeartbeats 3200000 in
theorem eq_Job (x y : Job) (v0 u0 : Value) (fp0 fq0 : List Nat) (w : World) (g0 : SlR 1 intR w x.rsp.data v0 fp0) (k0 : SlR 1 intR w y.rsp.data u0 fq0) :
    Calls Try.prog 91 #[.agg #[.int .i64 x.who, .int .i64 x.n, .int .i64 x.rsp.id, .int .i64 x.rsp.code, v0], .agg #[.int .i64 y.who, .int .i64 y.n, .int .i64 y.rsp.id, .int .i64 y.rsp.code, u0]] w fun e w' => e = .returned (.bool (decide (x = y))) ∧ Below w.heap.size w w' := by
  have hb : Below w.heap.size w ((w.alloc (.cells #[.int .i64 x.who, .int .i64 x.n, .int .i64 x.rsp.id, .int .i64 x.rsp.code, v0] 127)).alloc (.cells #[.int .i64 y.who, .int .i64 y.n, .int .i64 y.rsp.id, .int .i64 y.rsp.code, u0] 127)) := ((Below.refl _ _).alloc (Nat.le_refl _) _).alloc (by simp) _
  have G0 := Lib.hid (SlR.below intR_fits g0 hb)
  have K0 := Lib.hid (SlR.below intR_fits k0 hb)
  have B := Lib.hid hb
  have HD := Lib.hid (show decide (x = y) = (decide (x.who = y.who) && decide (x.n = y.n) && decide (x.rsp = y.rsp)) by cases x; cases y; simp [Bool.and_assoc])
  clear hb g0 k0
  cases e0 : decide (x.who = y.who)
  case' false =>
    have q0 : (x.who != y.who) = true := by simp [of_decide_eq_false e0]
    have E0 := Lib.hid e0
    clear e0
    go_enter Try.func91, Try.ntmps91
    go_wp2
    go_ret
    exact ⟨ret_bool (by rw [HD.out, E0.out]; simp), B.out⟩
  have q0 : (x.who != y.who) = false := by simp [of_decide_eq_true e0]
  have E0 := Lib.hid e0
  clear e0
  cases e1 : decide (x.n = y.n)
  case' false =>
    have q1 : (x.n != y.n) = true := by simp [of_decide_eq_false e1]
    have E1 := Lib.hid e1
    clear e1
    go_enter Try.func91, Try.ntmps91
    go_wp2
    go_ret
    exact ⟨ret_bool (by rw [HD.out, E0.out, E1.out]; simp), B.out⟩
  have q1 : (x.n != y.n) = false := by simp [of_decide_eq_true e1]
  have E1 := Lib.hid e1
  clear e1
  go_enter Try.func91, Try.ntmps91
  go_wp2_with fail
  refine (eq_Rsp x.rsp y.rsp _ _ fp0 fq0 _ G0.out K0.out).mono ?_
  rintro e w1 ⟨rfl, b⟩
  replace B := Lib.hid (B.out.trans (b.mono B.out.size))
  clear b G0 K0
  cases e2 : decide (x.rsp = y.rsp)
  case' false =>
    have E2 := Lib.hid e2
    clear e2 
    go_wp2
    go_ret
    exact ⟨ret_bool (by rw [HD.out, E0.out, E1.out, E2.out]; simp), B.out⟩
  have E2 := Lib.hid e2
  clear e2
  go_wp2
  go_ret
  exact ⟨ret_bool (by rw [HD.out,E0.out, E1.out, E2.out]; rfl), B.out⟩

set_option maxRecDepth 100000 in
set_option maxHeartbeats 3200000 in
theorem to_Job (x : Job) (v0 : Value) (fp0 : List Nat) (hs : sm_Job x) (w : World) (g0 : SlR 1 intR w x.rsp.data v0 fp0) :
    Calls Try.prog 89 #[.agg #[.int .i64 x.who, .int .i64 x.n, .int .i64 x.rsp.id, .int .i64 x.rsp.code, v0]] w fun e w' => ∃ v'0 fq0, e = .returned (.agg #[.int .i64 x.who, .int .i64 x.n, .int .i64 x.rsp.id, .int .i64 x.rsp.code, v'0]) ∧ SlR 1 intR w' x.rsp.data v'0 fq0 ∧ New (fq0) w w' ∧ Below w.heap.size w w' := by
  have G0 := Lib.hid g0
  have HS := Lib.hid hs
  clear hs g0
  go_enter Try.func89, Try.ntmps89
  go_wp2_with fail
  refine (to_Rsp x.rsp _ fp0 (HS.out) _ (G0.out.below intR_fits (below3 w _ _ _))).mono ?_
  rintro e w1 ⟨v'0, fq0, rfl, r0, n0, b0⟩
  obtain ⟨a0, l0, k0, rfl⟩ := r0.form
  have X0 : w1.cell? ⟨w.heap.size, 0, none⟩ = some (.int .i64 x.who) := keep_cell b0 (alloc_keep (alloc_keep (alloc1_new w _ _ 0 rfl) _) _)
  have X1 : w1.cell? ⟨w.heap.size, 1, none⟩ = some (.int .i64 x.n) := keep_cell b0 (alloc_keep (alloc_keep (alloc1_new w _ _ 1 rfl) _) _)
  have X2 : w1.cell? ⟨w.heap.size, 2, none⟩ = some (.int .i64 x.rsp.id) := keep_cell b0 (alloc_keep (alloc_keep (alloc1_new w _ _ 2 rfl) _) _)
  have X3 : w1.cell? ⟨w.heap.size, 3, none⟩ = some (.int .i64 x.rsp.code) := keep_cell b0 (alloc_keep (alloc_keep (alloc1_new w _ _ 3 rfl) _) _)
  have X4 : w1.cell? ⟨w.heap.size, 4, none⟩ = some (v0) := keep_cell b0 (alloc_keep (alloc_keep (alloc1_new w _ _ 4 rfl) _) _)
  have M0 : w1.cell? ⟨w.heap.size + 1, 0, none⟩ = some (.int .i64 0) := keep_cell b0 (alloc3_mid w _ _ _ _ _ 0 rfl)
  have M1 : w1.cell? ⟨w.heap.size + 1, 1, none⟩ = some (.int .i64 0) := keep_cell b0 (alloc3_mid w _ _ _ _ _ 1 rfl)
  have M2 : w1.cell? ⟨w.heap.size + 1, 2, none⟩ = some (.int .i64 0) := keep_cell b0 (alloc3_mid w _ _ _ _ _ 2 rfl)
  have M3 : w1.cell? ⟨w.heap.size + 1, 3, none⟩ = some (.int .i64 0) := keep_cell b0 (alloc3_mid w _ _ _ _ _ 3 rfl)
  have M4 : w1.cell? ⟨w.heap.size + 1, 4, none⟩ = some (.slice none 0 0) := keep_cell b0 (alloc3_mid w _ _ _ _ _ 4 rfl)
  have O0 : w1.cell? ⟨w.heap.size + 1 + 1, 0, none⟩ = some (.int .i64 x.who) := keep_cell b0 (alloc3_new w _ _ _ _ _ 0 rfl)
  have O1 : w1.cell? ⟨w.heap.size + 1 + 1, 1, none⟩ = some (.int .i64 x.n) := keep_cell b0 (alloc3_new w _ _ _ _ _ 1 rfl)
  have O2 : w1.cell? ⟨w.heap.size + 1 + 1, 2, none⟩ = some (.int .i64 0) := keep_cell b0 (alloc3_new w _ _ _ _ _ 2 rfl)
  have O3 : w1.cell? ⟨w.heap.size + 1 + 1, 3, none⟩ = some (.int .i64 0) := keep_cell b0 (alloc3_new w _ _ _ _ _ 3 rfl)
  have O4 : w1.cell? ⟨w.heap.size + 1 + 1, 4, none⟩ = some (.slice none 0 0) := keep_cell b0 (alloc3_new w _ _ _ _ _ 4 rfl)
  have f10 := keep_free b0 (by simp) (alloc3_free w _ _ _ _ _ _ 0 (.inl rfl))
  have f11 := keep_free b0 (by simp) (alloc3_free w _ _ _ _ _ _ 1 (.inl rfl))
  have f12 := keep_free b0 (by simp) (alloc3_free w _ _ _ _ _ _ 2 (.inl rfl))
  have f13 := keep_free b0 (by simp) (alloc3_free w _ _ _ _ _ _ 3 (.inl rfl))
  have f14 := keep_free b0 (by simp) (alloc3_free w _ _ _ _ _ _ 4 (.inl rfl))
  have f20 := keep_free b0 (by simp) (alloc3_free w _ _ _ _ _ _ 0 (.inr rfl))
  have f21 := keep_free b0 (by simp) (alloc3_free w _ _ _ _ _ _ 1 (.inr rfl))
  have f22 := keep_free b0 (by simp) (alloc3_free w _ _ _ _ _ _ 2 (.inr rfl))
  have f23 := keep_free b0 (by simp) (alloc3_free w _ _ _ _ _ _ 3 (.inr rfl))
  have f24 := keep_free b0 (by simp) (alloc3_free w _ _ _ _ _ _ 4 (.inr rfl))
  have hB : Below w.heap.size w w1 := (below3 w _ _ _).trans (b0.mono (by simp; omega))
  have hlo0 : ∀ b, b ∈ fq0 → w.heap.size + 1 + 1 < b := fun b hb => by have := n0.lo b hb; simp at this; omega
  have hz : w.heap.size + 1 + 1 < w1.heap.size := by have := b0.size; simp at this; omega
  have L0 : Hid (∀ b, b ∈ fq0 → w.heap.size + 1 + 1 < b) := Lib.hid (fun b hb => by have := hlo0 b hb; omega)
  have D1 := Lib.hid (((hB.setCell (p := ⟨w.heap.size + 1 + 1, 2, none⟩) (by simp; omega) (.int .i64 x.rsp.id)).setCell (p := ⟨w.heap.size + 1 + 1, 3, none⟩) (by simp; omega) (.int .i64 x.rsp.code)).setCell (p := ⟨w.heap.size + 1 + 1, 4, none⟩) (by simp; omega) (.slice a0 l0 k0))
  have Z1 := Lib.hid hz
  have ON0 := Lib.hid n0.once
  have FR0 := Lib.hid n0.free
  have LT0 : Hid (∀ b, b ∈ fq0 → b < w1.heap.size) := Lib.hid (r0.lt intR_fits)
  have HR0 := Lib.hid r0
  have HhB := Lib.hid hB
  have Hz := Lib.hid hz
  clear r0 n0 b0 hB hlo0 hz X0 X1 X2 X3 X4
  go_wp2
  have hsame : ∀ (fq : List Nat), (∀ b, b ∈ fq → w.heap.size + 1 + 1 < b) → ∀ {s0 s1 s2 t0 t1 t2 t3 t4 : Value}, Same fq w1 ((((((((w1.setCell ⟨w.heap.size + 1 + 1, 2, none⟩ s0).setCell ⟨w.heap.size + 1 + 1, 3, none⟩ s1).setCell ⟨w.heap.size + 1 + 1, 4, none⟩ s2).setCell ⟨w.heap.size + 1, 0, none⟩ t0).setCell ⟨w.heap.size + 1, 1, none⟩ t1).setCell ⟨w.heap.size + 1, 2, none⟩ t2).setCell ⟨w.heap.size + 1, 3, none⟩ t3).setCell ⟨w.heap.size + 1, 4, none⟩ t4) := fun fq hq => by
    intro s0 s1 s2 t0 t1 t2 t3 t4 b hb
    have := hq b hb
    rw [Below.heap_setCell _ _ _ _ (by simp; omega), Below.heap_setCell _ _ _ _ (by simp; omega), Below.heap_setCell _ _ _ _ (by simp; omega), Below.heap_setCell _ _ _ _ (by simp; omega), Below.heap_setCell _ _ _ _ (by simp; omega), Below.heap_setCell _ _ _ _ (by simp; omega), Below.heap_setCell _ _ _ _ (by simp; omega), Below.heap_setCell _ _ _ _ (by simp; omega)]
  have HL : ∀ b, b ∈ fq0 → w.heap.size + 1 + 1 < b := L0.out
  exact bodyPost_ret (v := .agg #[.int .i64 x.who, .int .i64 x.n, .int .i64 x.rsp.id, .int .i64 x.rsp.code, .slice a0 l0 k0]) (by simp [results, Try.results89, go_sem, M0, M1, M2, M3, M4]) rfl
    ⟨_, fq0, rfl, HR0.out.same intR_fits (hsame _ (fun b hb => L0.out b (by simp [hb]))) (by simp), ⟨fun b hb => by have := HL b (by simpa using hb); omega, by simpa using ON0.out, fun b hb => (FR0.out.same (hsame _ HL)) b (by simpa using hb)⟩, ((((((((HhB.out.setCell (by simp; omega) _).setCell (by simp; omega) _).setCell (by simp; omega) _).setCell (by simp) _).setCell (by simp) _).setCell (by simp) _).setCell (by simp) _).setCell (by simp) _)⟩


theorem opens_jobs : Opens Try.prog 42 (slR 5 jobR) :=
  opens_slice Try.underlying42 (by kernel_rfl) (by decide) opens_Job jobR_fits

def sm_jobs (l : List Job) : Prop := l.length ≤ 1048576 ∧ ∀ k (h : k < l.length), sm_Job l[k]

set_option maxRecDepth 100000 in
set_option maxHeartbeats 1600000 in
theorem sz_jobs (v : Value) (l : List Job) (fp : List Nat) (left : Int) (h0 : 0 ≤ left) (h1 : left ≤ 1048576) (w : World) (g : SlR 5 jobR w l v fp) :
    Calls Try.prog 23 #[v, .int .i64 left] w (SzP left (sm_jobs l) w) := by
  obtain ⟨a, n, cap, rfl, hn, hcap, hmax, hcm, r⟩ := g.opened
  clear g
  by_cases h : left < n
  · clear r
    go_enter Try.func23, Try.ntmps23
    go_wp2
    go_ret
    exact SzP.neg h0 (Below.refl _ _)
  have d0 : decide (left - n < 0) = false := decide_eq_false (by omega)
  go_enter Try.func23, Try.ntmps23
  go_wp2_with fail
  go_loopw [1, 5] (fun z i wr => ∃ (k : Nat) (t : Int), k ≤ n ∧ i = .int .i64 k ∧ z = .int .i64 t ∧ 0 ≤ t ∧ t ≤ left - n ∧ (∀ j (h : j < l.length), j < k → sm_Job l[j]) ∧ Below w.heap.size w wr) (fun _ i _ => n - (intOf i).toNat)
  case atStart => exact ⟨0, _, Nat.zero_le _, rfl, rfl, by omega, by omega, fun j _ h => absurd h (Nat.not_lt_zero j), Below.refl _ _⟩
  case round =>
    obtain ⟨k, t, hk, rfl, rfl, t0, t1, hp, hb⟩ := hrel
    have HP := Lib.hid hp
    have HB := Lib.hid hb
    clear hp
    by_cases hlt : k < n
    · obtain ⟨i1, b1, o1, xf, cs, rfl, hb1, _, _, ⟨xv0, xp0, rfl, rfl, xg0⟩, e1⟩ := r k hlt
      have c0 := (hb.cell (p := ⟨b1, o1 + k * 5 + 0, none⟩) hb1).trans (e1 0 (by simp))
      have c1 := (hb.cell (p := ⟨b1, o1 + k * 5 + 1, none⟩) hb1).trans (e1 1 (by simp))
      have c2 := (hb.cell (p := ⟨b1, o1 + k * 5 + 2, none⟩) hb1).trans (e1 2 (by simp))
      have c3 := (hb.cell (p := ⟨b1, o1 + k * 5 + 3, none⟩) hb1).trans (e1 3 (by simp))
      have c4 := (hb.cell (p := ⟨b1, o1 + k * 5 + 4, none⟩) hb1).trans (e1 4 (by simp))
      simp only [Nat.add_zero, List.getElem_cons_zero, List.getElem_cons_succ] at c0 c1 c2 c3 c4
      have G0 := Lib.hid (SlR.below intR_fits xg0 hb)
      clear r e1 hb xg0
      go_wp2_with fail
      refine (sz_Job l[k] _ xf t (by omega) (by omega) _ G0.out).mono ?_
      rintro e w2 ⟨z, rfl, le, sm, b2⟩
      have HB2 := Lib.hid (HB.out.trans (b2.mono HB.out.size))
      have SM := Lib.hid sm
      clear b2 sm c0 c1 c2 c3 c4
      cases hq : decide (z < 0)
      case' true =>
        go_wp2
        go_ret
        exact SzP.neg h0 HB2.out
      have z0 : 0 ≤ z := by have := of_decide_eq_false hq; omega
      go_wp2
      go_roundw
      case rel => exact ⟨k + 1, z, by omega, by go_num, rfl, z0, by omega, fun j h hj => (by
        by_cases e : j = k
        · subst e; exact SM.out z0
        · exact HP.out j h (by omega)), HB2.out⟩
      case measure => simp [intOf]; omega
    · clear r hb
      go_wp2
      go_ret
      exact SzP.pos (by omega) ⟨by rw [hn.out]; omega, fun k h => HP.out k h (by rw [hn.out] at h; omega)⟩ HB.out

set_option maxRecDepth 100000 in
set_option maxHeartbeats 1600000 in
theorem eq_jobs (v1 v2 : Value) (l1 l2 : List Job) (fp1 fp2 : List Nat) (w : World) (g1 : SlR 5 jobR w l1 v1 fp1) (g2 : SlR 5 jobR w l2 v2 fp2) :
    Calls Try.prog 27 #[v1, v2] w fun e w' => e = .returned (.bool (decide (l1 = l2))) ∧ Below w.heap.size w w' := by
  obtain ⟨a1, n1, c1, rfl, hn1, k1, m1, _, r1⟩ := g1.opened
  obtain ⟨a2, n2, c2, rfl, hn2, k2, m2, _, r2⟩ := g2.opened
  clear g1 g2
  by_cases hL : n2 = n1
  · obtain rfl := hL
    go_enter Try.func27, Try.ntmps27
    go_wp2
    go_loopw [5] (fun i wr => ∃ k : Nat, k ≤ n2 ∧ i = .int .i64 k ∧ l1.take k = l2.take k ∧ Below w.heap.size w wr) (fun i _ => n2 - (intOf i).toNat)
    case atStart => exact ⟨0, Nat.zero_le _, rfl, rfl, Below.refl _ _⟩
    case round =>
      obtain ⟨k, hk, rfl, ht, hb⟩ := hrel
      have HT := Lib.hid ht
      have HB := Lib.hid hb
      clear ht
      by_cases hlt : k < n2
      · obtain ⟨i1, b1, o1, xf, cs1, rfl, hb1, _, _, ⟨xv0, xp0, rfl, rfl, xg0⟩, e1⟩ := r1 k hlt
        obtain ⟨i2, b2, o2, yf, cs2, rfl, hb2, _, _, ⟨yv0, yp0, rfl, rfl, yg0⟩, e2⟩ := r2 k hlt
        have c0 := (hb.cell (p := ⟨b1, o1 + k * 5 + 0, none⟩) hb1).trans (e1 0 (by simp))
        have c1 := (hb.cell (p := ⟨b1, o1 + k * 5 + 1, none⟩) hb1).trans (e1 1 (by simp))
        have c2 := (hb.cell (p := ⟨b1, o1 + k * 5 + 2, none⟩) hb1).trans (e1 2 (by simp))
        have c3 := (hb.cell (p := ⟨b1, o1 + k * 5 + 3, none⟩) hb1).trans (e1 3 (by simp))
        have c4 := (hb.cell (p := ⟨b1, o1 + k * 5 + 4, none⟩) hb1).trans (e1 4 (by simp))
        have d0 := (hb.cell (p := ⟨b2, o2 + k * 5 + 0, none⟩) hb2).trans (e2 0 (by simp))
        have d1 := (hb.cell (p := ⟨b2, o2 + k * 5 + 1, none⟩) hb2).trans (e2 1 (by simp))
        have d2 := (hb.cell (p := ⟨b2, o2 + k * 5 + 2, none⟩) hb2).trans (e2 2 (by simp))
        have d3 := (hb.cell (p := ⟨b2, o2 + k * 5 + 3, none⟩) hb2).trans (e2 3 (by simp))
        have d4 := (hb.cell (p := ⟨b2, o2 + k * 5 + 4, none⟩) hb2).trans (e2 4 (by simp))
        simp only [Nat.add_zero, List.getElem_cons_zero, List.getElem_cons_succ] at c0 d0 c1 d1 c2 d2 c3 d3 c4 d4
        have hbd := HB.out.trans (Below.refl _ wr).drew
        have G0 := Lib.hid (SlR.below intR_fits xg0 hbd)
        have K0 := Lib.hid (SlR.below intR_fits yg0 hbd)
        clear r1 r2 e1 e2 hb hbd xg0 yg0
        go_wp2_with fail
        go_still_tail 8, (by kernel_rfl)
        change wpList _ _ _ _ _ wr.drew
        clear c0 d0 c1 d1 c2 d2 c3 d3 c4 d4
        go_wp2_with fail
        refine (eq_Job l1[k] l2[k] _ _ xf yf _ G0.out K0.out).mono ?_
        rintro e w2 ⟨rfl, b3⟩
        have HB2 := Lib.hid ((HB.out.trans (Below.refl _ _).drew).trans (b3.mono HB.out.size))
        clear b3
        cases hq : decide (l1[k] = l2[k])
        · have HQ := Lib.hid (of_decide_eq_false hq)
          clear hq
          go_wp2
          go_ret
          exact ⟨ret_bool (by simp; intro e; exact HQ.out (by simp [e])), HB2.out⟩
        · have HQ := Lib.hid (of_decide_eq_true hq)
          clear hq
          go_wp2
          go_roundw
          case rel => exact ⟨k + 1, by omega, by go_num, take_succ_eq HT.out i1 i2 HQ.out, HB2.out⟩
          case measure => simp [intOf]; omega
      · clear r1 r2 hb
        go_wp2
        go_ret
        exact ⟨ret_bool (by simp [take_all_eq HT.out hn1.out hn2.out (by omega)]), HB.out⟩
  · clear r1 r2
    have hne : l1 ≠ l2 := fun e => hL (by rw [← hn1.out, ← hn2.out, e])
    have hq : ((n1 : Int) != n2) = true := by simp; omega
    go_enter Try.func27, Try.ntmps27
    go_wp2
    go_ret
    exact ⟨ret_bool (by simp [hne]), Below.refl _ _⟩

theorem info_jobs : (Try.prog.info? 127).map (fun i => (i.zero, i.size, i.bytes)) = some (some (.agg #[.int .i64 0, .int .i64 0, .int .i64 0, .int .i64 0, .slice none 0 0]), 5, 56) := by kernel_rfl

set_option maxRecDepth 100000 in
set_option maxHeartbeats 1600000 in
theorem to_jobs (v : Value) (l : List Job) (fp : List Nat) (hs : sm_jobs l) (w : World) (g : SlR 5 jobR w l v fp) :
    Calls Try.prog 25 #[v] w fun e w' => ∃ v' fp', e = .returned v' ∧ SlR 5 jobR w' l v' fp' ∧ New fp' w w' ∧ Below w.heap.size w w' := by
  obtain ⟨a, n, cap, rfl, hn, hcap, hmax, hcm, r⟩ := g.opened
  have hns : n ≤ 1048576 := by rw [← hn.out]; exact hs.1
  have HS := Lib.hid hs.2
  clear g hs
  obtain ⟨i0, hi, hz0, hz1, hz2⟩ := info_parts info_jobs
  go_enter Try.func25, Try.ntmps25
  go_wp2_with (at_make; refine wpList_make_full _ rfl _ _ 44 rfl w.heap.size 127 i0 (.agg #[.int .i64 0, .int .i64 0, .int .i64 0, .int .i64 0, .slice none 0 0]) 5 Try.underlying44 hi hz0 hz1 _ _ _ _ n rfl rfl rfl rfl (by rw [hz2]; omega) (by unfold maxLen; omega) (Nat.le_refl _) ?_; intro w1 hown hgr)
  go_loopw [4] (fun i wr => ∃ k : Nat, k ≤ n ∧ i = .int .i64 k ∧ Part 5 jobR 127 w.heap.size n wr l k ∧ Below w.heap.size w wr) (fun i _ => n - (intOf i).toNat)
  case atStart => exact ⟨0, Nat.zero_le _, rfl, Part.start hown, (Below.refl _ _).grown hgr (Nat.le_refl _) (fun k hk => by simp at hk)⟩
  case round =>
    clear hown hgr
    obtain ⟨k, hk, rfl, hpt, hb⟩ := hrel
    have HP := Lib.hid hpt
    have HB := Lib.hid hb
    clear hpt
    by_cases hlt : k < n
    · obtain ⟨i1, b1, o1, xf, cs, rfl, hb1, _, _, ⟨xv0, xp0, rfl, rfl, xg0⟩, e1⟩ := r k hlt
      have c0 := (hb.cell (p := ⟨b1, o1 + k * 5 + 0, none⟩) hb1).trans (e1 0 (by simp))
      have c1 := (hb.cell (p := ⟨b1, o1 + k * 5 + 1, none⟩) hb1).trans (e1 1 (by simp))
      have c2 := (hb.cell (p := ⟨b1, o1 + k * 5 + 2, none⟩) hb1).trans (e1 2 (by simp))
      have c3 := (hb.cell (p := ⟨b1, o1 + k * 5 + 3, none⟩) hb1).trans (e1 3 (by simp))
      have c4 := (hb.cell (p := ⟨b1, o1 + k * 5 + 4, none⟩) hb1).trans (e1 4 (by simp))
      simp only [Nat.add_zero, List.getElem_cons_zero, List.getElem_cons_succ] at c0 c1 c2 c3 c4
      have G0 := Lib.hid (SlR.below intR_fits xg0 hb)
      clear r e1 hb xg0
      go_wp2_with fail
      refine (to_Job l[k] _ xf (HS.out k i1) _ G0.out).mono ?_
      rintro e w2 ⟨z0, q0, rfl, s0, n2, b2⟩
      obtain ⟨za0, zl0, zc0, rfl⟩ := s0.form
      have HR := Lib.hid (show jobR w2 l[k] [.int .i64 l[k].who, .int .i64 l[k].n, .int .i64 l[k].rsp.id, .int .i64 l[k].rsp.code, .slice za0 zl0 zc0] (q0) from ⟨_, q0, rfl, rfl, s0⟩)
      have HN := Lib.hid n2
      have HB2 := Lib.hid (HB.out.trans (b2.mono HB.out.size))
      have B2 := Lib.hid b2
      have hP2 := HP.out.below jobR_fits (by rw [hn.out]; omega) b2
      obtain ⟨x0, d0⟩ := hP2.there (k * 5 + 0) (by omega)
      obtain ⟨x1, d1⟩ := hP2.there (k * 5 + 1) (by omega)
      obtain ⟨x2, d2⟩ := hP2.there (k * 5 + 2) (by omega)
      obtain ⟨x3, d3⟩ := hP2.there (k * 5 + 3) (by omega)
      obtain ⟨x4, d4⟩ := hP2.there (k * 5 + 4) (by omega)
      have f0 := hP2.free (k * 5 + 0)
      have f1 := hP2.free (k * 5 + 1)
      have f2 := hP2.free (k * 5 + 2)
      have f3 := hP2.free (k * 5 + 3)
      have f4 := hP2.free (k * 5 + 4)
      simp only [Nat.add_zero] at d0 f0
      clear b2 hP2 n2 s0 c0 c1 c2 c3 c4
      go_wp2
      go_roundw
      case rel => exact ⟨k + 1, by omega, by go_num, (by have h := HP.out.step jobR_fits hn.out i1 B2.out HR.out HN.out; (try simp only [Nat.mul_one] at h); exact h), (by have h := putCells_below (g := w.heap.size) (Nat.le_refl _) [.int .i64 l[k].who, .int .i64 l[k].n, .int .i64 l[k].rsp.id, .int .i64 l[k].rsp.code, .slice za0 zl0 zc0] _ (k * 5) HB2.out; (try simp only [Nat.mul_one] at h); exact h)⟩
      case measure => simp [intOf]; omega
    · obtain rfl : k = n := by omega
      obtain ⟨fp', g1, n1⟩ := HP.out.done jobR_fits (w0 := w) hn.out (by unfold maxLen; omega) (Nat.le_refl _)
      have HG1 := Lib.hid g1
      have HN1 := Lib.hid n1
      clear r hb g1 n1
      go_wp2
      go_ret
      exact ⟨_, fp', rfl, HG1.out, HN1.out, HB.out⟩


end Go.Proofs.Ytmmojgopeaelcaa
