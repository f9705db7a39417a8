/-
  A store, and what is held, handed in: szAtmState, eqAtmState, toAtmState.
-/
import Derived.Test.YtmmojgopeaelcaaProg
import Derived.Test.YtmmojgopeaelcaaBase
import Derived.Test.YtmmojgopeaelcaaUniMem
import Derived.OwnWalk
import Derived.KernelRfl
import Derived.WalkSmall
namespace Go.Proofs.Ytmmojgopeaelcaa
set_option linter.unusedVariables false
set_option linter.unusedSimpArgs false
open Go.RowKit Go.ChangeShapes

structure Atm where
  mem : (List Int)
  holds : List Int
  deriving DecidableEq

def atmR : Pr Atm := fun w x cs fp => ∃ (v0 v1 : Value) (fp0 fp1 : List Nat), cs = [v0, v1] ∧ fp = fp0 ++ fp1 ∧ SlR 1 intR w x.mem v0 fp0 ∧ SlR 1 intR w x.holds v1 fp1
theorem atmR_fits : Fits 2 atmR := by
  refine ⟨fun ⟨v0, v1, fp0, fp1, e, e2, g0, g1⟩ => by rw [e]; rfl, fun ⟨v0, v1, fp0, fp1, e, e2, g0, g1⟩ b hb => ?_, fun ⟨v0, v1, fp0, fp1, e, e2, g0, g1⟩ hs hz => ⟨v0, v1, fp0, fp1, e, e2, g0.same intR_fits (hs.mono (fun b hb => by rw [e2]; simp [hb])) hz, g1.same intR_fits (hs.mono (fun b hb => by rw [e2]; simp [hb])) hz⟩⟩
  rw [e2] at hb
  simp only [List.mem_append] at hb
  rcases hb with (hb | hb)
  · exact g0.lt intR_fits b hb
  · exact g1.lt intR_fits b hb

set_option maxRecDepth 100000 in
theorem opens_Atm : Opens Try.prog 60 atmR := fun {H enc w fuel cs x} h => by
  obtain ⟨xs, n, _, _, hl, hx, hf⟩ := DataW.trod_struct Try.underlying60 h
  have hk : Try.prog.cellsOf 60 = 2 := by kernel_rfl
  have k_Mem : Try.prog.cellsOf 58 = 1 := by kernel_rfl
  have k_ints : Try.prog.cellsOf 23 = 1 := by kernel_rfl
  rw [hk] at hl
  have hx' : xs.length = 2 := hx
  match cs, hl with
  | [c0, c1], _ =>
    obtain ⟨y0, _, v0, fp0, e0, _, s0⟩ := opens_Mem ((hf 0 _ rfl).trans (List.getElem?_eq_getElem (by omega)))
    obtain ⟨y1, fp1, v1, e1, s1⟩ := (opens_slice Try.underlying23 (by kernel_rfl) (by decide) (opens_int Try.underlying3) intR_fits : Opens Try.prog 23 (slR 1 intR)) ((hf 1 _ rfl).trans (List.getElem?_eq_getElem (by omega)))
    simp [k_Mem, k_ints] at e0 e1
    subst e0
    subst e1
    exact ⟨⟨y0, y1⟩, _, _, _, fp0, fp1, rfl, rfl, s0, s1⟩

def sm_Atm (x : Atm) : Prop := sm_Mem x.mem ∧ sm_ints x.holds

set_option maxRecDepth 100000 in
set_option maxHeartbeats 3200000 in
theorem sz_Atm (x : Atm) (v0 v1 : Value) (fp0 fp1 : List Nat) (left : Int) (h0 : 0 ≤ left) (h1 : left ≤ 1048576) (w : World) (g0 : SlR 1 intR w x.mem v0 fp0) (g1 : SlR 1 intR w x.holds v1 fp1) :
    Calls Try.prog 101 #[.agg #[v0, v1], .int .i64 left] w (SzP left (sm_Atm x) w) := by
  have hb := below_alloc w (.cells #[v0, v1] 60)
  have G0 := Lib.hid (SlR.below intR_fits g0 hb)
  have G1 := Lib.hid (SlR.below intR_fits g1 hb)
  have B := Lib.hid hb
  clear hb g0 g1
  go_enter Try.func101, Try.ntmps101
  go_wp2_with fail
  refine (sz_Mem x.mem _ fp0 left (by omega) (by omega) _ G0.out).mono ?_
  rintro e w1 ⟨z0, rfl, le0, sm0, b⟩
  have X1 := keep_cell b (alloc1_new w _ _ 1 rfl)
  replace G1 := Lib.hid (SlR.below intR_fits G1.out b)
  replace B := Lib.hid (B.out.trans (b.mono B.out.size))
  have S0 := Lib.hid sm0
  clear b sm0 G0
  cases q0 : decide (z0 < 0)
  case' true =>
    clear X1
    go_wp2
    go_ret
    exact SzP.neg h0 B.out
  have p0 : 0 ≤ z0 := by have := of_decide_eq_false q0; omega
  go_wp2_with fail
  refine (sz_ints _ x.holds fp1 z0 (by omega) (by omega) _ G1.out).mono ?_
  rintro e w2 ⟨z1, rfl, le1, sm1, b⟩
  replace B := Lib.hid (B.out.trans (b.mono B.out.size))
  have S1 := Lib.hid sm1
  clear b sm1 G1
  cases q1 : decide (z1 < 0)
  case' true =>
    skip
    go_wp2
    go_ret
    exact SzP.neg h0 B.out
  have p1 : 0 ≤ z1 := by have := of_decide_eq_false q1; omega
  go_wp2
  go_ret
  exact SzP.pos (by omega) ⟨S0.out (by omega), S1.out (by omega)⟩ B.out

set_option maxRecDepth 100000 in
set_option maxHeartbeats 3200000 in
theorem eq_Atm (x y : Atm) (v0 v1 u0 u1 : Value) (fp0 fp1 fq0 fq1 : List Nat) (w : World) (g0 : SlR 1 intR w x.mem v0 fp0) (g1 : SlR 1 intR w x.holds v1 fp1) (k0 : SlR 1 intR w y.mem u0 fq0) (k1 : SlR 1 intR w y.holds u1 fq1) :
    Calls Try.prog 107 #[.agg #[v0, v1], .agg #[u0, u1]] w fun e w' => e = .returned (.bool (decide (x = y))) ∧ Below w.heap.size w w' := by
  have hb : Below w.heap.size w ((w.alloc (.cells #[v0, v1] 67)).alloc (.cells #[u0, u1] 67)) := ((Below.refl _ _).alloc (Nat.le_refl _) _).alloc (by simp) _
  have G0 := Lib.hid (SlR.below intR_fits g0 hb)
  have K0 := Lib.hid (SlR.below intR_fits k0 hb)
  have G1 := Lib.hid (SlR.below intR_fits g1 hb)
  have K1 := Lib.hid (SlR.below intR_fits k1 hb)
  have B := Lib.hid hb
  have HD := Lib.hid (show decide (x = y) = (decide (x.mem = y.mem) && decide (x.holds = y.holds)) by cases x; cases y; simp [Bool.and_assoc])
  clear hb g0 k0 g1 k1
  go_enter Try.func107, Try.ntmps107
  go_wp2_with fail
  refine (eq_Mem x.mem y.mem _ _ fp0 fq0 _ G0.out K0.out).mono ?_
  rintro e w1 ⟨rfl, b⟩
  have X1 := keep_cell b (alloc2_old w _ _ _ _ 1 rfl)
  have Y1 := keep_cell b (alloc2_new w _ _ _ _ 1 rfl)
  replace G1 := Lib.hid (SlR.below intR_fits G1.out b)
  replace K1 := Lib.hid (SlR.below intR_fits K1.out b)
  replace B := Lib.hid (B.out.trans (b.mono B.out.size))
  clear b G0 K0
  cases e0 : decide (x.mem = y.mem)
  case' false =>
    have E0 := Lib.hid e0
    clear e0 X1 Y1
    go_wp2
    go_ret
    exact ⟨ret_bool (by rw [HD.out, E0.out]; simp), B.out⟩
  have E0 := Lib.hid e0
  clear e0
  go_wp2_with fail
  refine (eq_ints _ _ x.holds y.holds fp1 fq1 _ G1.out K1.out).mono ?_
  rintro e w2 ⟨rfl, b⟩
  replace B := Lib.hid (B.out.trans (b.mono B.out.size))
  clear b G1 K1
  cases e1 : decide (x.holds = y.holds)
  case' false =>
    have E1 := Lib.hid e1
    clear e1 
    go_wp2
    go_ret
    exact ⟨ret_bool (by rw [HD.out, E0.out, E1.out]; simp), B.out⟩
  have E1 := Lib.hid e1
  clear e1
  go_wp2
  go_ret
  exact ⟨ret_bool (by rw [HD.out,E0.out, E1.out]; rfl), B.out⟩

set_option maxRecDepth 100000 in
set_option maxHeartbeats 3200000 in
theorem to_Atm (x : Atm) (v0 v1 : Value) (fp0 fp1 : List Nat) (hs : sm_Atm x) (w : World) (g0 : SlR 1 intR w x.mem v0 fp0) (g1 : SlR 1 intR w x.holds v1 fp1) :
    Calls Try.prog 105 #[.agg #[v0, v1]] w fun e w' => ∃ v'0 fq0 v'1 fq1, e = .returned (.agg #[v'0, v'1]) ∧ SlR 1 intR w' x.mem v'0 fq0 ∧ SlR 1 intR w' x.holds v'1 fq1 ∧ New (fq0 ++ fq1) w w' ∧ Below w.heap.size w w' := by
  have G0 := Lib.hid g0
  have G1 := Lib.hid g1
  have HS := Lib.hid hs
  clear hs g0 g1
  go_enter Try.func105, Try.ntmps105
  go_wp2_with fail
  refine (to_Mem x.mem _ fp0 (HS.out.1) _ (G0.out.below intR_fits (below3 w _ _ _))).mono ?_
  rintro e w1 ⟨v'0, fq0, rfl, r0, n0, b0⟩
  obtain ⟨a0, l0, k0, rfl⟩ := r0.form
  have X0 : w1.cell? ⟨w.heap.size, 0, none⟩ = some (v0) := keep_cell b0 (alloc_keep (alloc_keep (alloc1_new w _ _ 0 rfl) _) _)
  have X1 : w1.cell? ⟨w.heap.size, 1, none⟩ = some (v1) := keep_cell b0 (alloc_keep (alloc_keep (alloc1_new w _ _ 1 rfl) _) _)
  have M0 : w1.cell? ⟨w.heap.size + 1, 0, none⟩ = some (.slice none 0 0) := keep_cell b0 (alloc3_mid w _ _ _ _ _ 0 rfl)
  have M1 : w1.cell? ⟨w.heap.size + 1, 1, none⟩ = some (.slice none 0 0) := keep_cell b0 (alloc3_mid w _ _ _ _ _ 1 rfl)
  have O0 : w1.cell? ⟨w.heap.size + 1 + 1, 0, none⟩ = some (.slice none 0 0) := keep_cell b0 (alloc3_new w _ _ _ _ _ 0 rfl)
  have O1 : w1.cell? ⟨w.heap.size + 1 + 1, 1, none⟩ = some (.slice none 0 0) := keep_cell b0 (alloc3_new w _ _ _ _ _ 1 rfl)
  have f10 := keep_free b0 (by simp) (alloc3_free w _ _ _ _ _ _ 0 (.inl rfl))
  have f11 := keep_free b0 (by simp) (alloc3_free w _ _ _ _ _ _ 1 (.inl rfl))
  have f20 := keep_free b0 (by simp) (alloc3_free w _ _ _ _ _ _ 0 (.inr rfl))
  have f21 := keep_free b0 (by simp) (alloc3_free w _ _ _ _ _ _ 1 (.inr rfl))
  have hB : Below w.heap.size w w1 := (below3 w _ _ _).trans (b0.mono (by simp; omega))
  have hlo0 : ∀ b, b ∈ fq0 → w.heap.size + 1 + 1 < b := fun b hb => by have := n0.lo b hb; simp at this; omega
  have hz : w.heap.size + 1 + 1 < w1.heap.size := by have := b0.size; simp at this; omega
  have L0 : Hid (∀ b, b ∈ fq0 → w.heap.size + 1 + 1 < b) := Lib.hid (fun b hb => by have := hlo0 b hb; omega)
  have D1 := Lib.hid (hB.setCell (p := ⟨w.heap.size + 1 + 1, 0, none⟩) (by simp; omega) (.slice a0 l0 k0))
  have Z1 := Lib.hid hz
  have ON0 := Lib.hid n0.once
  have FR0 := Lib.hid n0.free
  have LT0 : Hid (∀ b, b ∈ fq0 → b < w1.heap.size) := Lib.hid (r0.lt intR_fits)
  have HR0 := Lib.hid r0
  have HhB := Lib.hid hB
  have Hz := Lib.hid hz
  clear r0 n0 b0 hB hlo0 hz
  go_wp2_with fail
  have r0 := HR0.out
  have hB := HhB.out
  have hz := Hz.out
  clear HhB Hz HR0
  refine (to_ints _ x.holds fp1 (HS.out.2) _ (G1.out.below intR_fits D1.out)).mono ?_
  rintro e w2 ⟨v'1, fq1, rfl, r1, n1, b1⟩
  obtain ⟨a1, l1, k1, rfl⟩ := r1.form
  have X0' := keep_cell b1 ((World.cell?_setCell_other _ _ _ _ (by simp)).trans X0)
  have X1' := keep_cell b1 ((World.cell?_setCell_other _ _ _ _ (by simp)).trans X1)
  have M0' := keep_cell b1 ((World.cell?_setCell_other _ _ _ _ (by simp)).trans M0)
  have M1' := keep_cell b1 ((World.cell?_setCell_other _ _ _ _ (by simp)).trans M1)
  have O0' := keep_cell b1 (World.cell?_setCell_same _ _ _ O0)
  have O1' := keep_cell b1 ((World.cell?_setCell_other _ _ _ _ (by simp)).trans O1)
  have f10' : w2.frozen? ⟨w.heap.size + 1, 0, none⟩ = false := keep_free b1 (by simp; omega) (by simpa using f10)
  have f11' : w2.frozen? ⟨w.heap.size + 1, 1, none⟩ = false := keep_free b1 (by simp; omega) (by simpa using f11)
  have f20' : w2.frozen? ⟨w.heap.size + 1 + 1, 0, none⟩ = false := keep_free b1 (by simp; omega) (by simpa using f20)
  have f21' : w2.frozen? ⟨w.heap.size + 1 + 1, 1, none⟩ = false := keep_free b1 (by simp; omega) (by simpa using f21)
  clear X0 M0 O0 f10 f20 X1 M1 O1 f11 f21
  have X0 := X0'
  have X1 := X1'
  clear X0' X1'
  have M0 := M0'
  have M1 := M1'
  clear M0' M1'
  have O0 := O0'
  have O1 := O1'
  clear O0' O1'
  have f10 := f10'
  have f11 := f11'
  clear f10' f11'
  have f20 := f20'
  have f21 := f21'
  clear f20' f21'
  have hB2 : Below w.heap.size w w2 := D1.out.trans (b1.mono (by have := D1.out.size; exact this))
  clear hB
  have hB := hB2
  clear hB2
  have hlo1 : ∀ b, b ∈ fq1 → w1.heap.size ≤ b := fun b hb => by have := n1.lo b hb; simpa using this
  have hz2 : w.heap.size + 1 + 1 < w2.heap.size := by have := b1.size; simp at this; omega
  clear hz
  have hz := hz2
  clear hz2
  have DJ0_1 : Hid (∀ b, b ∈ fq0 → b ∉ fq1) := Lib.hid (fun b hb hb2 => by have := LT0.out b hb; have := hlo1 b hb2; omega)
  have hsm : Same (fq0) w1 (w1.setCell ⟨w.heap.size + 1 + 1, 0, none⟩ (.slice a0 l0 k0)) := fun b hb => by have := L0.out b hb; rw [Below.heap_setCell _ _ _ _ (by simp; omega)]
  have ht : ∀ b, b ∈ fq0 → b < (w1.setCell ⟨w.heap.size + 1 + 1, 0, none⟩ (.slice a0 l0 k0)).heap.size := fun b hb => by have := LT0.out b hb; simp; omega
  have hf : Free (fq0) w2 := (Free.same (w' := (w1.setCell ⟨w.heap.size + 1 + 1, 0, none⟩ (.slice a0 l0 k0))) FR0.out hsm).below ht b1
  have hl : ∀ b, b ∈ fq0 → b < w2.heap.size := fun b hb => by have := ht b hb; have := b1.size; omega
  clear FR0 LT0 ht
  have FR0 := Lib.hid hf
  have LT0 := Lib.hid hl
  clear hf hl
  have r0' := (r0.same intR_fits (w' := (w1.setCell ⟨w.heap.size + 1 + 1, 0, none⟩ (.slice a0 l0 k0))) (hsm.mono (fun b hb => by simp [hb])) (by simp)).below intR_fits b1
  clear r0
  have r0 := r0'
  clear r0'
  clear hsm
  have L1 : Hid (∀ b, b ∈ fq1 → w.heap.size + 1 + 1 < b) := Lib.hid (fun b hb => by have := hlo1 b hb; have := Z1.out; omega)
  have D2 := Lib.hid (hB.setCell (p := ⟨w.heap.size + 1 + 1, 1, none⟩) (by simp; omega) (.slice a1 l1 k1))
  have Z2 := Lib.hid hz
  have ON1 := Lib.hid n1.once
  have FR1 := Lib.hid n1.free
  have LT1 : Hid (∀ b, b ∈ fq1 → b < w2.heap.size) := Lib.hid (r1.lt intR_fits)
  have HR0 := Lib.hid r0
  have HR1 := Lib.hid r1
  have HhB := Lib.hid hB
  have Hz := Lib.hid hz
  clear r0 r1 n1 b1 hB hlo1 hz X0 X1
  go_wp2
  have hsame : ∀ (fq : List Nat), (∀ b, b ∈ fq → w.heap.size + 1 + 1 < b) → ∀ {s0 t0 t1 : Value}, Same fq w2 (((w2.setCell ⟨w.heap.size + 1 + 1, 1, none⟩ s0).setCell ⟨w.heap.size + 1, 0, none⟩ t0).setCell ⟨w.heap.size + 1, 1, none⟩ t1) := fun fq hq => by
    intro s0 t0 t1 b hb
    have := hq b hb
    rw [Below.heap_setCell _ _ _ _ (by simp; omega), Below.heap_setCell _ _ _ _ (by simp; omega), Below.heap_setCell _ _ _ _ (by simp; omega)]
  have HL : ∀ b, b ∈ fq0 ++ fq1 → w.heap.size + 1 + 1 < b := (all_app (T := fun b => w.heap.size + 1 + 1 < b) L0.out L1.out)
  exact bodyPost_ret (v := .agg #[.slice a0 l0 k0, .slice a1 l1 k1]) (by simp [results, Try.results105, go_sem, M0, M1]) rfl
    ⟨_, fq0, _, fq1, rfl, HR0.out.same intR_fits (hsame _ (fun b hb => L0.out b (by simp [hb]))) (by simp), HR1.out.same intR_fits (hsame _ (fun b hb => L1.out b (by simp [hb]))) (by simp), ⟨fun b hb => by have := HL b (by simpa using hb); omega, by simpa using (nodup_app ON0.out ON1.out DJ0_1.out), fun b hb => ((Free.app FR0.out FR1.out).same (hsame _ HL)) b (by simpa using hb)⟩, (((HhB.out.setCell (by simp; omega) _).setCell (by simp) _).setCell (by simp) _)⟩


end Go.Proofs.Ytmmojgopeaelcaa
