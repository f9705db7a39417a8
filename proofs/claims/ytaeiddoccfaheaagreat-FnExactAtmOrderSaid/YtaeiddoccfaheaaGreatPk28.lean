/-
 Texts of this claim laid together: Bools Mem MemIn UniMem Atm.
-/
import Derived.Test.YtaeiddoccfaheaaGreatProg
import Derived.Test.YtaeiddoccfaheaaGreatPk04
import Derived.Deep.QuietTactic
import Derived.BigQuiet
import Derived.OwnWalk
import Derived.Test.YtaeiddoccfaheaaGreatPk08
import Derived.WalkSmall
import Derived.KernelRfl
import Derived.Test.YtaeiddoccfaheaaGreatPk09
set_option linter.unusedVariables false
set_option linter.unusedSimpArgs false
namespace Go.Proofs.YtaeiddoccfaheaaGreat
open Go.RowKit
end Go.Proofs.YtaeiddoccfaheaaGreat
namespace Go.Proofs.YtaeiddoccfaheaaGreat
open Go.RowKit
theorem markMem_any (v : Value) (l : List Int) (fp : List Nat) (k : Int) (h0 : 0 <= k) (h1 : k <= 1152921504606846976) (hs : l.length <= 1048576) (w : World) (g : IntS w l v fp) (f : Free fp w) :
 Calls Tryz.prog 45 #[.agg #[v], .int .i64 k] w fun e w' => e = .returned (.int .i64 (k + l.length)) ∧ IntS w' (marks k l.length) v fp ∧ Chg fp w w' ∧ Free fp w' := by
 have G := Lib.hid g
 have F := Lib.hid f
 clear g f
 go_enter Tryz.func45, Tryz.ntmps45
 go_wp2_with fail
 have hb : Below w.heap.size w (w.alloc (.cells #[v] 31)) := (Below.refl _ _).alloc (Nat.le_refl _) _
 refine (markIntS_any v l fp k h0 (by omega) hs _ (SlR.below intR_fits G.out hb) (F.out.same (Same.of_below hb (SlR.lt intR_fits G.out)))).mono ?_
 rintro e w' ⟨rfl, h1, h2, h3⟩
 have H1 := Lib.hid h1
 have H2 := Lib.hid h2
 have H3 := Lib.hid h3
 have HB := Lib.hid hb
 clear h1 h2 h3 hb
 go_wp2
 go_ret
 exact ⟨rfl, H1.out, (HB.out.chg _).trans' H2.out, H3.out⟩
theorem heldR_neg (l : List Int) (k : Int) (h0 : 0 <= k) (h : heldR l k < 0) : heldR l k = -1 := by
 by_cases e : l = marks k l.length
 · rw [heldR, if_pos e] at h; omega
 · rw [heldR, if_neg e]
theorem heldR_marks (k : Int) (n : Nat) : heldR (marks k n) k = k + n := by simp [heldR, marks_len]
theorem heldMem_any (v : Value) (l : List Int) (fp : List Nat) (k : Int) (h0 : 0 <= k) (h1 : k <= 1152921504606846976) (hs : l.length <= 1048576) (w : World) (g : IntS w l v fp) :
 Calls Tryz.prog 46 #[.agg #[v], .int .i64 k] w fun e w' => e = .returned (.int .i64 (heldR l k)) ∧ Below w.heap.size w w' := by
 have G := Lib.hid g
 clear g
 cases hq : decide (heldR l k < 0)
 all_goals
  go_enter Tryz.func46, Tryz.ntmps46
  go_wp2_with fail
  have hb : Below w.heap.size w (w.alloc (.cells #[v] 31)) := (Below.refl _ _).alloc (Nat.le_refl _) _
  refine (heldIntS_any v l fp k h0 h1 hs _ (SlR.below intR_fits G.out hb)).mono ?_
  rintro e w' ⟨rfl, rfl⟩
  have HB := Lib.hid hb
  clear hb
  go_wp2
  go_ret
  first
   | exact ⟨rfl, HB.out⟩
   | exact ⟨ret_int (heldR_neg l k h0 (of_decide_eq_true hq)).symm, HB.out⟩
theorem eqMem_any (v1 v2 : Value) (l1 l2 : List Int) (fp1 fp2 : List Nat) (w : World) (g1 : IntS w l1 v1 fp1) (g2 : IntS w l2 v2 fp2) :
 Calls Tryz.prog 36 #[.agg #[v1], .agg #[v2]] w fun e w' => e = .returned (.bool (decide (l1 = l2))) ∧ Below w.heap.size w w' := by
 have G1 := Lib.hid g1
 have G2 := Lib.hid g2
 clear g1 g2
 cases hq : decide (l1 = l2)
 all_goals
  go_enter Tryz.func36, Tryz.ntmps36
  go_wp2_with fail
  have hb : Below w.heap.size w ((w.alloc (.cells #[v1] 31)).alloc (.cells #[v2] 31)) := ((Below.refl _ _).alloc (Nat.le_refl _) _).alloc (by simp) _
  refine (eqIntS_any v1 v2 l1 l2 fp1 fp2 _ (SlR.below intR_fits G1.out hb) (SlR.below intR_fits G2.out hb)).mono ?_
  rintro e w' ⟨rfl, n, rfl⟩
  have HB := Lib.hid hb
  clear hb
  go_wp2
  go_ret
  exact ⟨rfl, below_drewN HB.out _⟩
theorem sMemNew_any (w : World) :
 Calls Tryz.prog 52 #[] w fun e w' => ∃ v fp, e = .returned (.agg #[v]) ∧ IntS w' (List.replicate 64 0) v fp ∧ New fp w w' ∧ Below w.heap.size w w' := by
 obtain ⟨i0, hi, hz0, hz1, hz2⟩ := info_parts infoInt
 go_enter Tryz.func52, Tryz.ntmps52
 go_wp2_with (at_make; refine wpList_make_full _ rfl _ _ 23 rfl (w.heap.size + 1) 3 i0 (.int .i64 0) 1 Tryz.underlying23 hi hz0 hz1 _ _ _ _ 64 rfl rfl rfl rfl (by rw [hz2]; omega) (by unfold maxLen; omega) (by simp) ?_; intro w1 hown hgr; have hb := below_of_grown hgr; obtain ⟨ru1, ru2⟩ := rules_below hb; have HO := Lib.hid hown; have HB := Lib.hid hb; clear hown hgr hb)
 have hb := HB.out
 have ho : w1.ownsRow (w.heap.size + 1) 3 1 (.slice (some ⟨w.heap.size + 1, 0, none⟩) 64 64) 64 ((List.replicate 64 (0 : Int)).map (Value.int .i64)) := by
  have h := HO.out
  rw [show (madeCells (Value.int .i64 0).cells (64 * 1)).toList = (List.replicate 64 (0 : Int)).map (Value.int .i64) from by simp [Value.cells, toList_madeCells_one]] at h
  simpa using h
 obtain ⟨fp, g1, g2, g3, g4⟩ := IntS.of_owns ho
 have hc : w1.cell? ⟨w.heap.size, 0, none⟩ = some (.slice none 0 0) := by rw [ru1 _ _ (by simp), World.cell?_alloc_at _ _ _ _ rfl]; rfl
 have hB : Below w.heap.size w (w1.setCell ⟨w.heap.size, 0, none⟩ (.slice (some ⟨w.heap.size + 1, 0, none⟩) 64 64)) := (((Below.refl _ _).alloc (Nat.le_refl _) _).trans (hb.mono (by simp))).setCell (Nat.le_refl _) _
 have hs : Same fp w1 (w1.setCell ⟨w.heap.size, 0, none⟩ (.slice (some ⟨w.heap.size + 1, 0, none⟩) 64 64)) := fun b hb' => Below.heap_setCell _ _ _ _ (by have := g2 b hb'; simp; omega)
 exact bodyPost_ret (v := .agg #[.slice (some ⟨w.heap.size + 1, 0, none⟩) 64 64]) (by simp [results, Tryz.results52, go_sem, World.cell?_setCell_same _ _ _ hc]) rfl
  ⟨_, fp, rfl, g1.same intR_fits hs (by simp), ⟨fun b hb' => by have := g2 b hb'; omega, g3, g4.same hs⟩, hB⟩
theorem iMemNew_any (w : World) :
 Calls Tryz.prog 68 #[] w fun e w' => ∃ v fp, e = .returned (.agg #[v]) ∧ IntS w' (List.replicate 64 0) v fp ∧ New fp w w' ∧ Below w.heap.size w w' := by
 obtain ⟨i0, hi, hz0, hz1, hz2⟩ := info_parts infoInt
 go_enter Tryz.func68, Tryz.ntmps68
 go_wp2_with (at_make; refine wpList_make_full _ rfl _ _ 23 rfl (w.heap.size + 1) 3 i0 (.int .i64 0) 1 Tryz.underlying23 hi hz0 hz1 _ _ _ _ 64 rfl rfl rfl rfl (by rw [hz2]; omega) (by unfold maxLen; omega) (by simp) ?_; intro w1 hown hgr; have hb := below_of_grown hgr; obtain ⟨ru1, ru2⟩ := rules_below hb; have HO := Lib.hid hown; have HB := Lib.hid hb; clear hown hgr hb)
 have hb := HB.out
 have ho : w1.ownsRow (w.heap.size + 1) 3 1 (.slice (some ⟨w.heap.size + 1, 0, none⟩) 64 64) 64 ((List.replicate 64 (0 : Int)).map (Value.int .i64)) := by
  have h := HO.out
  rw [show (madeCells (Value.int .i64 0).cells (64 * 1)).toList = (List.replicate 64 (0 : Int)).map (Value.int .i64) from by simp [Value.cells, toList_madeCells_one]] at h
  simpa using h
 obtain ⟨fp, g1, g2, g3, g4⟩ := IntS.of_owns ho
 have hc : w1.cell? ⟨w.heap.size, 0, none⟩ = some (.slice none 0 0) := by rw [ru1 _ _ (by simp), World.cell?_alloc_at _ _ _ _ rfl]; rfl
 have hB : Below w.heap.size w (w1.setCell ⟨w.heap.size, 0, none⟩ (.slice (some ⟨w.heap.size + 1, 0, none⟩) 64 64)) := (((Below.refl _ _).alloc (Nat.le_refl _) _).trans (hb.mono (by simp))).setCell (Nat.le_refl _) _
 have hs : Same fp w1 (w1.setCell ⟨w.heap.size, 0, none⟩ (.slice (some ⟨w.heap.size + 1, 0, none⟩) 64 64)) := fun b hb' => Below.heap_setCell _ _ _ _ (by have := g2 b hb'; simp; omega)
 exact bodyPost_ret (v := .agg #[.slice (some ⟨w.heap.size + 1, 0, none⟩) 64 64]) (by simp [results, Tryz.results68, go_sem, World.cell?_setCell_same _ _ _ hc]) rfl
  ⟨_, fp, rfl, g1.same intR_fits hs (by simp), ⟨fun b hb' => by have := g2 b hb'; omega, g3, g4.same hs⟩, hB⟩
end Go.Proofs.YtaeiddoccfaheaaGreat
namespace Go.Proofs.YtaeiddoccfaheaaGreat
open Go.RowKit Go.ChangeShapes
theorem eqMem_any2 (x y : List Int) (v1 v2 : Value) (fp1 fp2 : List Nat) (w : World) (g1 : IntS w x v1 fp1) (g2 : IntS w y v2 fp2) :
 Calls Tryz.prog 36 #[.agg #[v1], .agg #[v2]] w fun e w' => e = .returned (.bool (decide (x = y))) ∧ Below w.heap.size w w' := eqMem_any v1 v2 x y fp1 fp2 w g1 g2
end Go.Proofs.YtaeiddoccfaheaaGreat
namespace Go.Proofs.YtaeiddoccfaheaaGreat
open Go.RowKit
def mk_ints (k : Int) (l : List Int) : List Int := marks k l.length
def cnt_ints (l : List Int) : Int := (l.length : Int)
theorem cnt_ints_in {l : List Int} (h : sm_ints l) : 0 <= cnt_ints l ∧ cnt_ints l <= 1048576 := by unfold cnt_ints; unfold sm_ints at h; omega
theorem mark_ints (v : Value) (l : List Int) (fp : List Nat) (k : Int) (h0 : 0 <= k) (h1 : k <= 4611686018427387904) (hs : sm_ints l) (w : World) (g : SlR 1 intR w l v fp) (f : Free fp w) :
 Calls Tryz.prog 43 #[v, .int .i64 k] w fun e w' => e = .returned (.int .i64 (k + cnt_ints l)) ∧ SlR 1 intR w' (mk_ints k l) v fp ∧ Chg fp w w' ∧ Free fp w' := markIntS_any v l fp k h0 h1 hs w g f
theorem held_ints (v : Value) (l : List Int) (fp : List Nat) (k : Int) (h0 : 0 <= k) (h1 : k <= 1152921504606846976) (hs : sm_ints l) (w : World) (g : SlR 1 intR w (mk_ints k l) v fp) :
 Calls Tryz.prog 47 #[v, .int .i64 k] w fun e w' => e = .returned (.int .i64 (k + cnt_ints l)) ∧ Below w.heap.size w w' :=
 (heldIntS_any v _ fp k h0 h1 (by rw [show (mk_ints k l).length = l.length from marks_len ..]; exact hs) w g).mono fun _ _ ⟨he, hw⟩ => by
  subst hw
  exact ⟨by rw [he]; unfold mk_ints; rw [heldR_marks]; rfl, Below.refl _ _⟩
def sm_Mem (x : List Int) : Prop := sm_ints x
def mk_Mem (k : Int) (x : List Int) : List Int := mk_ints k x
def cnt_Mem (x : List Int) : Int := cnt_ints x
theorem cnt_Mem_in {x : List Int} (h : sm_Mem x) : 0 <= cnt_Mem x ∧ cnt_Mem x <= 1048576 := cnt_ints_in h
theorem eq_Mem (x y : List Int) (v1 v2 : Value) (fp1 fp2 : List Nat) (w : World) (g1 : SlR 1 intR w x v1 fp1) (g2 : SlR 1 intR w y v2 fp2) :
 Calls Tryz.prog 36 #[.agg #[v1], .agg #[v2]] w fun e w' => e = .returned (.bool (decide (x = y))) ∧ Below w.heap.size w w' := eqMem_any2 x y v1 v2 fp1 fp2 w g1 g2
theorem mark_Mem (x : List Int) (v : Value) (fp : List Nat) (k : Int) (h0 : 0 <= k) (h1 : k <= 1152921504606846976) (hs : sm_Mem x) (w : World) (g : SlR 1 intR w x v fp) (f : Free fp w) :
 Calls Tryz.prog 45 #[.agg #[v], .int .i64 k] w fun e w' => e = .returned (.int .i64 (k + cnt_Mem x)) ∧ SlR 1 intR w' (mk_Mem k x) v fp ∧ Chg fp w w' ∧ Free fp w' := markMem_any v x fp k h0 h1 hs w g f
theorem held_Mem (x : List Int) (v : Value) (fp : List Nat) (k : Int) (h0 : 0 <= k) (h1 : k <= 1152921504606846976) (hs : sm_Mem x) (w : World) (g : SlR 1 intR w (mk_Mem k x) v fp) :
 Calls Tryz.prog 46 #[.agg #[v], .int .i64 k] w fun e w' => e = .returned (.int .i64 (k + cnt_Mem x)) ∧ Below w.heap.size w w' :=
 (heldMem_any v _ fp k h0 h1 (by rw [show (mk_Mem k x).length = x.length from marks_len ..]; exact hs) w g).mono fun _ _ ⟨he, hb⟩ => ⟨by rw [he]; unfold mk_Mem mk_ints; rw [heldR_marks]; rfl, hb⟩
end Go.Proofs.YtaeiddoccfaheaaGreat
namespace Go.Proofs.YtaeiddoccfaheaaGreat
open Go.RowKit Go.ChangeShapes
structure Atm where
 mem : (List Int)
 holds : List Int
 deriving DecidableEq
def sm_Atm (x : Atm) : Prop := sm_Mem x.mem ∧ sm_ints x.holds
set_option maxRecDepth 100000 in
set_option maxHeartbeats 3200000 in
theorem eq_Atm (x y : Atm) (v0 v1 u0 u1 : Value) (fp0 fp1 fq0 fq1 : List Nat) (w : World) (g0 : SlR 1 intR w x.mem v0 fp0) (g1 : SlR 1 intR w x.holds v1 fp1) (k0 : SlR 1 intR w y.mem u0 fq0) (k1 : SlR 1 intR w y.holds u1 fq1) :
 Calls Tryz.prog 10 #[.agg #[v0, v1], .agg #[u0, u1]] w fun e w' => e = .returned (.bool (decide (x = y))) ∧ Below w.heap.size w w' := by
 have hb : Below w.heap.size w ((w.alloc (.cells #[v0, v1] 33)).alloc (.cells #[u0, u1] 33)) := ((Below.refl _ _).alloc (Nat.le_refl _) _).alloc (by simp) _
 have G0 := Lib.hid (SlR.below intR_fits g0 hb)
 have K0 := Lib.hid (SlR.below intR_fits k0 hb)
 have G1 := Lib.hid (SlR.below intR_fits g1 hb)
 have K1 := Lib.hid (SlR.below intR_fits k1 hb)
 have B := Lib.hid hb
 have HD := Lib.hid (show decide (x = y) = (decide (x.mem = y.mem) && decide (x.holds = y.holds)) by cases x; cases y; simp [Bool.and_assoc])
 clear hb g0 k0 g1 k1
 go_enter Tryz.func10, Tryz.ntmps10
 go_wp2_with fail
 refine (eq_Mem x.mem y.mem _ _ fp0 fq0 _ G0.out K0.out).mono ?_
 rintro e w1 ⟨rfl, b⟩
 have X1 := keep_cell b (alloc2_old w _ _ _ _ 1 rfl)
 have Y1 := keep_cell b (alloc2_new w _ _ _ _ 1 rfl)
 replace G1 := Lib.hid (SlR.below intR_fits G1.out b)
 replace K1 := Lib.hid (SlR.below intR_fits K1.out b)
 replace B := Lib.hid (B.out.trans (b.mono B.out.size))
 clear b G0 K0
 cases e0 : decide (x.mem = y.mem)
 case' false =>
  have E0 := Lib.hid e0
  clear e0 X1 Y1
  go_wp2
  go_ret
  exact ⟨ret_bool (by rw [HD.out, E0.out]; simp), B.out⟩
 have E0 := Lib.hid e0
 clear e0
 go_wp2_with fail
 refine (eq_ints _ _ x.holds y.holds fp1 fq1 _ G1.out K1.out).mono ?_
 rintro e w2 ⟨rfl, b⟩
 replace B := Lib.hid (B.out.trans (b.mono B.out.size))
 clear b G1 K1
 cases e1 : decide (x.holds = y.holds)
 case' false =>
  have E1 := Lib.hid e1
  clear e1 
  go_wp2
  go_ret
  exact ⟨ret_bool (by rw [HD.out, E0.out, E1.out]; simp), B.out⟩
 have E1 := Lib.hid e1
 clear e1
 go_wp2
 go_ret
 exact ⟨ret_bool (by rw [HD.out,E0.out, E1.out]; rfl), B.out⟩
end Go.Proofs.YtaeiddoccfaheaaGreat
