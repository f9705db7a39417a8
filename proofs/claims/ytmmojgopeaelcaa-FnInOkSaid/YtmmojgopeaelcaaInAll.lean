/-
  All ready, none still: InAll (both); markCycIn, heldCycIn.
-/
import Derived.Test.YtmmojgopeaelcaaProg
import Derived.Test.YtmmojgopeaelcaaBase
import Derived.Test.YtmmojgopeaelcaaIn
import Derived.Test.YtmmojgopeaelcaaRep
import Derived.Test.YtmmojgopeaelcaaRow
import Derived.Test.YtmmojgopeaelcaaRegion2
import Derived.Test.YtmmojgopeaelcaaBoolMark
import Derived.Test.YtmmojgopeaelcaaOne
import Derived.WalkSmall
namespace Go.Proofs.Ytmmojgopeaelcaa
set_option linter.unusedVariables false
set_option linter.unusedSimpArgs false
open Go.RowKit

/-- all ready, none still -/
def inAll : CycIn := ⟨List.replicate 3 true, List.replicate 4 false, List.replicate 3 true⟩

set_option maxRecDepth 100000 in
set_option maxHeartbeats 1600000 in
theorem sInAll_any (w : World) :
    Calls Try.prog 167 #[] w fun e w' => ∃ v0 fp0 v1 fp1 v2 fp2, e = .returned (.agg #[v0, v1, v2]) ∧ SlR 1 boolR w' inAll.ready v0 fp0 ∧ SlR 1 boolR w' inAll.stall v1 fp1 ∧ SlR 1 boolR w' inAll.send v2 fp2 ∧ New (fp0 ++ fp1 ++ fp2) w w' ∧ Below w.heap.size w w' := by
  go_enter Try.func167, Try.ntmps167
  go_wp2
  obtain ⟨W0, h0⟩ : ∃ W, W = w.alloc (.cells #[.slice (some ⟨w.heap.size + 1, 0, none⟩) 3 3, .slice (some ⟨w.heap.size + 1 + 1, 0, none⟩) 4 4, .slice (some ⟨w.heap.size + 1 + 1 + 1, 0, none⟩) 3 3] 86) := ⟨_, rfl⟩
  have z0 : W0.heap.size = w.heap.size + 1 := by rw [h0]; simp
  have c0 : W0.cell? ⟨w.heap.size, 0, none⟩ = some (.slice (some ⟨w.heap.size + 1, 0, none⟩) 3 3) := by rw [h0]; exact alloc1_new w _ _ 0 rfl
  have c1 : W0.cell? ⟨w.heap.size, 1, none⟩ = some (.slice (some ⟨w.heap.size + 1 + 1, 0, none⟩) 4 4) := by rw [h0]; exact alloc1_new w _ _ 1 rfl
  have c2 : W0.cell? ⟨w.heap.size, 2, none⟩ = some (.slice (some ⟨w.heap.size + 1 + 1 + 1, 0, none⟩) 3 3) := by rw [h0]; exact alloc1_new w _ _ 2 rfl
  have b0 : Below w.heap.size w W0 := by rw [h0]; exact below_alloc _ _
  rw [← h0]
  clear h0
  obtain ⟨s1, f1⟩ := lit_one (R := boolR) (c := Value.bool) (fun _ _ => ⟨rfl, rfl⟩) W0 inAll.ready 3 rfl (by decide) (by decide) #[.bool true, .bool true, .bool true] rfl 4
  obtain ⟨W1, h1⟩ : ∃ W, W = W0.alloc (.cells #[.bool true, .bool true, .bool true] 4) := ⟨_, rfl⟩
  have b1 : Below W0.heap.size W0 W1 := by rw [h1]; exact below_alloc _ _
  have z1 : W1.heap.size = W0.heap.size + 1 := by rw [h1]; simp
  rw [← h1] at s1 f1 ⊢
  clear h1
  obtain ⟨s2, f2⟩ := lit_one (R := boolR) (c := Value.bool) (fun _ _ => ⟨rfl, rfl⟩) W1 inAll.stall 4 rfl (by decide) (by decide) #[.bool false, .bool false, .bool false, .bool false] rfl 4
  obtain ⟨W2, h2⟩ : ∃ W, W = W1.alloc (.cells #[.bool false, .bool false, .bool false, .bool false] 4) := ⟨_, rfl⟩
  have b2 : Below W1.heap.size W1 W2 := by rw [h2]; exact below_alloc _ _
  have z2 : W2.heap.size = W1.heap.size + 1 := by rw [h2]; simp
  rw [← h2] at s2 f2 ⊢
  clear h2
  obtain ⟨s3, f3⟩ := lit_one (R := boolR) (c := Value.bool) (fun _ _ => ⟨rfl, rfl⟩) W2 inAll.send 3 rfl (by decide) (by decide) #[.bool true, .bool true, .bool true] rfl 4
  obtain ⟨W3, h3⟩ : ∃ W, W = W2.alloc (.cells #[.bool true, .bool true, .bool true] 4) := ⟨_, rfl⟩
  have b3 : Below W2.heap.size W2 W3 := by rw [h3]; exact below_alloc _ _
  rw [← h3] at s3 f3 ⊢
  clear h3
  have b13 : Below W1.heap.size W1 W3 := b2.trans (b3.mono (by omega))
  have b03 : Below W0.heap.size W0 W3 := b1.trans (b13.mono (by omega))
  have d0 := keep_cell b03 c0
  have d1 := keep_cell b03 c1
  have d2 := keep_cell b03 c2
  have l1 := s1.lt boolR_fits
  have l2 := s2.lt boolR_fits
  have t1 := s1.below boolR_fits b13
  have t2 := s2.below boolR_fits b3
  have e1 := f1.below l1 b13
  have e2 := f2.below l2 b3
  rw [z2, z1, z0] at s3 f3
  rw [z1, z0] at t2 e2
  rw [z0] at t1 e1
  exact bodyPost_ret (v := .agg #[.slice (some ⟨w.heap.size + 1, 0, none⟩) 3 3, .slice (some ⟨w.heap.size + 1 + 1, 0, none⟩) 4 4, .slice (some ⟨w.heap.size + 1 + 1 + 1, 0, none⟩) 3 3]) (by simp [results, Try.results167, go_sem, d0, d1, d2]) rfl
    ⟨_, _, _, _, _, _, rfl, t1, t2, s3, ⟨fun b hb => by simp at hb; omega, by simp, (e1.app e2).app f3⟩, b0.trans (b03.mono (by omega))⟩

/-- the block of the result is there -/
structure Res3 (w w1 : World) : Prop where
  cells : ∀ j, j < 3 → ∃ x, w1.cell? ⟨w.heap.size, j, none⟩ = some x
  free : ∀ j, w1.frozen? ⟨w.heap.size, j, none⟩ = false
  lt : w.heap.size < w1.heap.size
  below : Below w.heap.size w w1
theorem Res3.later {w w1 w2 : World} (h : Res3 w w1) (b : Below w1.heap.size w1 w2) : Res3 w w2 :=
  ⟨fun j hj => by obtain ⟨x, hx⟩ := h.cells j hj; exact ⟨x, keep_cell b hx⟩, fun j => (b.frozen (p := ⟨w.heap.size, j, none⟩) h.lt).trans (h.free j), Nat.lt_of_lt_of_le h.lt b.size, h.below.trans (b.mono h.below.size)⟩
theorem Res3.made (w : World) (A : Array Value) (hA : A.size = 3) (T : TypeId) : Res3 w (w.alloc (.cells A T)).drew := by
  refine ⟨fun j hj => ⟨A[j], ?_⟩, fun j => World.frozen?_alloc_at _ _ _ _ rfl, by simp [World.drew], (below_alloc w _).drew⟩
  exact alloc1_new w _ _ _ (by simp)

/-- a slice of one bool, for Repeat -/
def OneB (w : World) (v : Value) (w' : World) : Prop := ∃ g, v = .slice (some ⟨g, 0, none⟩) 1 1 ∧ w.heap.size < g ∧ w'.cell? ⟨g, 0, none⟩ = some (.bool true)
def Three (w : World) (u : Nat → Value) (w' : World) : Prop := w'.cell? ⟨w.heap.size, 0, none⟩ = some (u 1) ∧ w'.cell? ⟨w.heap.size, 1, none⟩ = some (u 2) ∧ w'.cell? ⟨w.heap.size, 2, none⟩ = some (u 4)
def inG (w : World) : Nat → (Nat → Value) → Value → World → Prop
  | 0, _, v, w' => OneB w v w'
  | 1, _, v, w' => SepR 1 boolR w (List.replicate 3 true) v w'
  | 2, _, v, w' => SepR 1 boolR w (List.replicate 4 false) v w'
  | 3, _, v, w' => OneB w v w'
  | 4, _, v, w' => SepR 1 boolR w (List.replicate 3 true) v w'
  | 5, u, v, _ => v = .agg #[u 1, u 2, u 4]
  | 6, u, _, w' => Three w u w'
  | _, _, _, _ => True
def inBlk : Nat → Value → List Nat
  | 1, v => blkOf v
  | 2, v => blkOf v
  | 4, v => blkOf v
  | _, _ => []
theorem inG_below {w w1 w2 : World} {i : Nat} (hB : Res3 w w1) (hb : Below w1.heap.size w1 w2) : ∀ j u x, j ≠ i → inG w j u x w1 → inG w j u x w2 := by
  intro j u x _ h
  have hc := hb.chg [w.heap.size]
  match j, h with
  | 0, ⟨g, e, hg, hx⟩ => exact ⟨g, e, hg, keep_cell hb hx⟩
  | 1, h => exact SepR.chg boolR_fits h hc
  | 2, h => exact SepR.chg boolR_fits h hc
  | 3, ⟨g, e, hg, hx⟩ => exact ⟨g, e, hg, keep_cell hb hx⟩
  | 4, h => exact SepR.chg boolR_fits h hc
  | 5, h => exact h
  | 6, ⟨h0, h1, h2⟩ => exact ⟨keep_cell hb h0, keep_cell hb h1, keep_cell hb h2⟩
  | n + 7, _ => trivial

set_option maxRecDepth 100000 in
set_option maxHeartbeats 3200000 in
theorem iInAll_any (w : World) :
    Calls Try.prog 52 #[] w fun e w' => ∃ v0 fp0 v1 fp1 v2 fp2, e = .returned (.agg #[v0, v1, v2]) ∧ SlR 1 boolR w' inAll.ready v0 fp0 ∧ SlR 1 boolR w' inAll.stall v1 fp1 ∧ SlR 1 boolR w' inAll.send v2 fp2 ∧ New (fp0 ++ fp1 ++ fp2) w w' ∧ Below w.heap.size w w' := by
  obtain ⟨i0, hi, hz0, hz1, hz2⟩ := info_parts infoBool
  go_enter Try.func52, Try.ntmps52
  go_wp2_with fail
  refine wp_region_sep (by kernel_rfl) (fun i => ([[], [0], [], [], [0, 1, 3], [0, 1, 2, 3, 4], [0, 1, 2, 3, 4, 5]] : List (List Nat)).getD i []) (inG w) (Res3 w) inBlk 7 7 [some 1, some 2, some 3, some 4, some 5, some 6, none] rfl rfl rfl (by kernel_rfl) (Res3.made w _ rfl _) ?hloc ?hlt (all_lt (n := 7) ?hop) ?hend
  case hloc =>
    intro i u u' v w1 hu h
    match i, h with
    | 0, h => exact h
    | 1, h => exact h
    | 2, h => exact h
    | 3, h => exact h
    | 4, h => exact h
    | 5, h =>
      show v = .agg #[u' 1, u' 2, u' 4]
      rw [← hu 1 (by decide), ← hu 2 (by decide), ← hu 4 (by decide)]
      exact h
    | 6, h =>
      show Three w u' w1
      unfold Three
      rw [← hu 1 (by decide), ← hu 2 (by decide), ← hu 4 (by decide)]
      exact h
    | n + 7, _ => trivial
  case hlt =>
    intro j u x w1 h b hb
    match j, h with
    | 0, h => simp [inBlk] at hb
    | 1, h => exact SepR.lt boolR_fits h b hb
    | 2, h => exact SepR.lt boolR_fits h b hb
    | 3, h => simp [inBlk] at hb
    | 4, h => exact SepR.lt boolR_fits h b hb
    | 5, h => simp [inBlk] at hb
    | 6, h => simp [inBlk] at hb
    | n + 7, _ => simp [inBlk] at hb
  case hop =>
    refine ⟨⟨⟨⟨⟨⟨⟨trivial, ?_⟩, ?_⟩, ?_⟩, ?_⟩, ?_⟩, ?_⟩, ?_⟩
    · refine OwesSep.mk _ rfl rfl (fun _ _ h => by cases h) fun u w1 hB hG hS => ⟨⟨#[undef, undef, undef, undef, undef, undef, undef], []⟩, rfl, fun d hd => by cases hd; exact (by decide : 1 < 7), ?_⟩
      have RB := Lib.hid hB
      clear hG hS hB
      go_wp2
      have hb := below_alloc w1 (.cells #[.bool true] 4)
      exact ⟨rfl, _, rfl, RB.out.later hb, ⟨_, rfl, RB.out.lt, alloc1_new w1 _ _ 0 rfl⟩, inG_below RB.out hb, fun b hb => by simp [inBlk] at hb⟩
    · refine OwesSep.mk _ rfl rfl (fun _ _ h => by cases h) fun u w1 hB hG hS => ⟨⟨#[undef, u 0, undef, undef, undef, undef, undef], []⟩, rfl, fun d hd => by cases hd; exact (by decide : 2 < 7), ?_⟩
      obtain ⟨g, e1, hg, hc⟩ := (hG 0 (by decide) : OneB w (u 0) w1)
      rw [e1]
      have RB := Lib.hid hB
      have HC := Lib.hid hc
      clear e1 hG hS hB hc
      go_wp2_with fail
      refine (repBool_any g true _ HC.out).mono ?_
      rintro e w2 ⟨v, fp, rfl, s, n, b⟩
      obtain ⟨q1, q2⟩ := SepR.of (w := w) boolR_flat s (by simp) (fun b' hb => by have := n.lo b' hb; have := RB.out.lt; omega) n.free
      have HQ := Lib.hid q1
      have HL : Hid (∀ b, b ∈ blkOf v → w1.heap.size ≤ b) := Lib.hid (by rw [q2]; exact n.lo)
      have HB := Lib.hid b
      clear s n b q1 q2
      go_wp2
      exact ⟨rfl, _, rfl, RB.out.later HB.out, HQ.out, inG_below RB.out HB.out, HL.out⟩
    · refine OwesSep.mk _ rfl rfl (fun _ _ h => by cases h) fun u w1 hB hG hS => ⟨⟨#[undef, undef, undef, undef, undef, undef, undef], []⟩, rfl, fun d hd => by cases hd; exact (by decide : 3 < 7), ?_⟩
      have RB := Lib.hid hB
      clear hG hS hB
      refine wpList_make_full _ rfl _ _ 84 rfl w1.heap.size 4 i0 (.bool false) 1 Try.underlying84 hi hz0 hz1 _ _ _ _ 4 rfl rfl rfl rfl (by rw [hz2]; omega) (by unfold maxLen; omega) (by simp) ?_
      intro w2 hown hgr
      have b := below_of_grown hgr
      have ho : w2.ownsRow w1.heap.size 4 1 (.slice (some ⟨w1.heap.size, 0, none⟩) 4 4) 4 ((List.replicate 4 false).map Value.bool) := by
        have h := hown
        rw [show (madeCells (Value.bool false).cells (4 * 1)).toList = (List.replicate 4 false).map Value.bool from by simp [Value.cells, toList_madeCells_one]] at h
        simpa using h
      obtain ⟨fp, s, lo, on, fr⟩ := BoolS.of_owns ho
      obtain ⟨q1, q2⟩ := SepR.of (w := w) boolR_flat s (by simp) (fun b' hb => by have := lo b' hb; have := RB.out.lt; omega) fr
      have HQ := Lib.hid q1
      have HL : Hid (∀ b, b ∈ blkOf (.slice (some ⟨w1.heap.size, 0, none⟩) 4 4) → w1.heap.size ≤ b) := Lib.hid (by rw [q2]; exact lo)
      have HB := Lib.hid b
      clear s lo on fr b q1 q2 ho hown hgr
      go_wp2
      exact ⟨rfl, _, rfl, RB.out.later HB.out, HQ.out, inG_below RB.out HB.out, HL.out⟩
    · refine OwesSep.mk _ rfl rfl (fun _ _ h => by cases h) fun u w1 hB hG hS => ⟨⟨#[undef, undef, undef, undef, undef, undef, undef], []⟩, rfl, fun d hd => by cases hd; exact (by decide : 4 < 7), ?_⟩
      have RB := Lib.hid hB
      clear hG hS hB
      go_wp2
      have hb := below_alloc w1 (.cells #[.bool true] 4)
      exact ⟨rfl, _, rfl, RB.out.later hb, ⟨_, rfl, RB.out.lt, alloc1_new w1 _ _ 0 rfl⟩, inG_below RB.out hb, fun b hb => by simp [inBlk] at hb⟩
    · refine OwesSep.mk _ rfl rfl (fun _ _ h => by cases h) fun u w1 hB hG hS => ⟨⟨#[undef, undef, undef, undef, u 3, undef, undef], []⟩, rfl, fun d hd => by cases hd; exact (by decide : 5 < 7), ?_⟩
      obtain ⟨g, e1, hg, hc⟩ := (hG 3 (by decide) : OneB w (u 3) w1)
      rw [e1]
      have RB := Lib.hid hB
      have HC := Lib.hid hc
      clear e1 hG hS hB hc
      go_wp2_with fail
      refine (repBool_any g true _ HC.out).mono ?_
      rintro e w2 ⟨v, fp, rfl, s, n, b⟩
      obtain ⟨q1, q2⟩ := SepR.of (w := w) boolR_flat s (by simp) (fun b' hb => by have := n.lo b' hb; have := RB.out.lt; omega) n.free
      have HQ := Lib.hid q1
      have HL : Hid (∀ b, b ∈ blkOf v → w1.heap.size ≤ b) := Lib.hid (by rw [q2]; exact n.lo)
      have HB := Lib.hid b
      clear s n b q1 q2
      go_wp2
      exact ⟨rfl, _, rfl, RB.out.later HB.out, HQ.out, inG_below RB.out HB.out, HL.out⟩
    · refine OwesSep.mk _ rfl rfl (fun _ _ h => by cases h) fun u w1 hB hG hS => ⟨⟨#[undef, undef, u 1, u 2, undef, u 4, undef], []⟩, rfl, fun d hd => by cases hd; exact (by decide : 6 < 7), ?_⟩
      obtain ⟨a1, n1, k1, e1⟩ := SepR.form (hG 1 (by decide) : SepR 1 boolR w (List.replicate 3 true) (u 1) w1)
      obtain ⟨a2, n2, k2, e2⟩ := SepR.form (hG 2 (by decide) : SepR 1 boolR w (List.replicate 4 false) (u 2) w1)
      obtain ⟨a4, n4, k4, e4⟩ := SepR.form (hG 4 (by decide) : SepR 1 boolR w (List.replicate 3 true) (u 4) w1)
      rw [e1, e2, e4]
      have E : Hid (Value.agg #[.slice a1 n1 k1, .slice a2 n2 k2, .slice a4 n4 k4] = .agg #[u 1, u 2, u 4]) := Lib.hid (by rw [e1, e2, e4])
      have RB := Lib.hid hB
      clear hG hS hB e1 e2 e4
      go_wp2
      exact ⟨rfl, _, rfl, RB.out, E.out, fun _ _ _ _ h => h, fun b hb => by simp [inBlk] at hb⟩
    · refine OwesSep.mk _ rfl rfl (fun _ _ h => by cases h) fun u w1 hB hG hS => ⟨⟨#[.pointer (some ⟨w.heap.size, 0, none⟩), undef, undef, undef, undef, undef, u 5], []⟩, rfl, fun d hd => (by cases hd), ?_⟩
      obtain ⟨a1, n1, k1, e1⟩ := SepR.form (hG 1 (by decide) : SepR 1 boolR w (List.replicate 3 true) (u 1) w1)
      obtain ⟨a2, n2, k2, e2⟩ := SepR.form (hG 2 (by decide) : SepR 1 boolR w (List.replicate 4 false) (u 2) w1)
      obtain ⟨a4, n4, k4, e4⟩ := SepR.form (hG 4 (by decide) : SepR 1 boolR w (List.replicate 3 true) (u 4) w1)
      have e5 : u 5 = .agg #[u 1, u 2, u 4] := hG 5 (by decide)
      rw [e5, e1, e2, e4]
      obtain ⟨x0, c0⟩ := hB.cells 0 (by omega)
      obtain ⟨x1, c1⟩ := hB.cells 1 (by omega)
      obtain ⟨x2, c2⟩ := hB.cells 2 (by omega)
      have f0 := hB.free 0
      have f1 := hB.free 1
      have f2 := hB.free 2
      have RB := Lib.hid hB
      have E1 := Lib.hid e1
      have E2 := Lib.hid e2
      have E4 := Lib.hid e4
      clear hG hS hB e1 e2 e4 e5
      go_wp2
      have hc : Chg [w.heap.size] w1 (putCells w.heap.size w1 0 [.slice a1 n1 k1, .slice a2 n2 k2, .slice a4 n4 k4]) := putCells_chg (by simp) _ _ _
      have hcell : ∀ j (hj : j < 3), (putCells w.heap.size w1 0 [.slice a1 n1 k1, .slice a2 n2 k2, .slice a4 n4 k4]).cell? ⟨w.heap.size, j, none⟩ = some ([Value.slice a1 n1 k1, .slice a2 n2 k2, .slice a4 n4 k4][j]'hj) := fun j hj => by
        have := putCells_in (g := w.heap.size) [.slice a1 n1 k1, .slice a2 n2 k2, .slice a4 n4 k4] w1 0 j hj (fun q hq => by rw [Nat.zero_add]; exact RB.out.cells q hq)
        rwa [Nat.zero_add] at this
      have hf1 : Free [w.heap.size] w1 := fun b hb o => by simp at hb; subst hb; exact RB.out.free o
      have hr : Res3 w (putCells w.heap.size w1 0 [.slice a1 n1 k1, .slice a2 n2 k2, .slice a4 n4 k4]) := ⟨fun j hj => ⟨_, hcell j hj⟩, fun j => putCells_free (g := w.heap.size) [.slice a1 n1 k1, .slice a2 n2 k2, .slice a4 n4 k4] w1 0 hf1 _ (by simp) j, by rw [putCells_size]; exact RB.out.lt, putCells_below (Nat.le_refl _) _ _ _ RB.out.below⟩
      refine ⟨rfl, undef, rfl, hr, ⟨?_, ?_, ?_⟩, ?_, fun b hb => by simp [inBlk] at hb⟩
      · rw [E1.out]; exact hcell 0 (by omega)
      · rw [E2.out]; exact hcell 1 (by omega)
      · rw [E4.out]; exact hcell 2 (by omega)
      · intro j u' x hj6 h
        match j, h with
        | 0, ⟨g, e, hg, hx⟩ => exact ⟨g, e, hg, keep_cell_chg hc hx (by simp; omega)⟩
        | 1, h => exact SepR.chg boolR_fits h hc
        | 2, h => exact SepR.chg boolR_fits h hc
        | 3, ⟨g, e, hg, hx⟩ => exact ⟨g, e, hg, keep_cell_chg hc hx (by simp; omega)⟩
        | 4, h => exact SepR.chg boolR_fits h hc
        | 5, h => exact h
        | 6, h => exact absurd rfl hj6
        | n + 7, _ => trivial
  case hend =>
    intro u w1 hB hG hS
    simp only [setAll, List.set_cons_zero, List.set_cons_succ]
    have s1 : SepR 1 boolR w (List.replicate 3 true) (u 1) w1 := hG 1 (by decide)
    have s2 : SepR 1 boolR w (List.replicate 4 false) (u 2) w1 := hG 2 (by decide)
    have s4 : SepR 1 boolR w (List.replicate 3 true) (u 4) w1 := hG 4 (by decide)
    have h12 : ∀ b, b ∈ blkOf (u 1) → b ∉ blkOf (u 2) := hS 1 2 (by decide) (by decide) (by decide)
    have h14 : ∀ b, b ∈ blkOf (u 1) → b ∉ blkOf (u 4) := hS 1 4 (by decide) (by decide) (by decide)
    have h24 : ∀ b, b ∈ blkOf (u 2) → b ∉ blkOf (u 4) := hS 2 4 (by decide) (by decide) (by decide)
    obtain ⟨c0, c1, c2⟩ : Three w u w1 := hG 6 (by decide)
    have e5 : u 5 = .agg #[u 1, u 2, u 4] := hG 5 (by decide)
    have RB := Lib.hid hB
    have on : ∀ v : Value, (blkOf v).Nodup := fun v => by unfold blkOf; split <;> simp
    have HN : Hid (New (blkOf (u 1) ++ blkOf (u 2) ++ blkOf (u 4)) w w1) := Lib.hid ⟨all_app (T := fun b => w.heap.size ≤ b) (all_app (T := fun b => w.heap.size ≤ b) (fun b hb => Nat.le_of_lt (s1.lo b hb)) (fun b hb => Nat.le_of_lt (s2.lo b hb))) (fun b hb => Nat.le_of_lt (s4.lo b hb)), nodup_app (nodup_app (on _) (on _) h12) (on _) (all_app (T := fun b => b ∉ blkOf (u 4)) h14 h24), (s1.free.app s2.free).app s4.free⟩
    have S1 := Lib.hid s1.reads
    have S2 := Lib.hid s2.reads
    have S4 := Lib.hid s4.reads
    obtain ⟨a1, n1, k1, e1⟩ := s1.form
    obtain ⟨a2, n2, k2, e2⟩ := s2.form
    obtain ⟨a4, n4, k4, e4⟩ := s4.form
    rw [e1] at c0
    rw [e2] at c1
    rw [e4] at c2
    have E1 := Lib.hid e1
    have E2 := Lib.hid e2
    have E4 := Lib.hid e4
    clear hG hS s1 s2 s4 h12 h14 h24 on e5 e1 e2 e4 hB
    go_wp2
    exact bodyPost_ret (v := .agg #[.slice a1 n1 k1, .slice a2 n2 k2, .slice a4 n4 k4]) (by simp [results, Try.results52, go_sem, c0, c1, c2]) rfl
      ⟨u 1, blkOf (u 1), u 2, blkOf (u 2), u 4, blkOf (u 4), by rw [E1.out, E2.out, E4.out], S1.out, S2.out, S4.out, HN.out, RB.out.below⟩

end Go.Proofs.Ytmmojgopeaelcaa
