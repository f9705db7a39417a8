/-
  What the functions on stores do: MemNew (both), eqMemMem, markMemMem, heldMemMem.
-/
import Derived.Test.YtmmojgopeaelcaaProg
import Derived.Test.YtmmojgopeaelcaaBase
import Derived.Test.YtmmojgopeaelcaaInts
import Derived.Test.YtmmojgopeaelcaaInts2
import Derived.WalkSmall
namespace Go.Proofs.Ytmmojgopeaelcaa
set_option linter.unusedVariables false
set_option linter.unusedSimpArgs false
open Go.RowKit

theorem heldR_neg (l : List Int) (k : Int) (h0 : 0 ≤ k) (h : heldR l k < 0) : heldR l k = -1 := by
  by_cases e : l = marks k l.length
  · rw [heldR, if_pos e] at h; omega
  · rw [heldR, if_neg e]
theorem heldR_marks (k : Int) (n : Nat) : heldR (marks k n) k = k + n := by simp [heldR, marks_len]

theorem eqMem_any (v1 v2 : Value) (l1 l2 : List Int) (fp1 fp2 : List Nat) (w : World) (g1 : IntS w l1 v1 fp1) (g2 : IntS w l2 v2 fp2) :
    Calls Try.prog 162 #[.agg #[v1], .agg #[v2]] w fun e w' => e = .returned (.bool (decide (l1 = l2))) ∧ Below w.heap.size w w' := by
  have G1 := Lib.hid g1
  have G2 := Lib.hid g2
  clear g1 g2
  cases hq : decide (l1 = l2)
  all_goals
    go_enter Try.func162, Try.ntmps162
    go_wp2_with fail
    have hb : Below w.heap.size w ((w.alloc (.cells #[v1] 65)).alloc (.cells #[v2] 65)) := ((Below.refl _ _).alloc (Nat.le_refl _) _).alloc (by simp) _
    refine (eqIntS_any v1 v2 l1 l2 fp1 fp2 _ (SlR.below intR_fits G1.out hb) (SlR.below intR_fits G2.out hb)).mono ?_
    rintro e w' ⟨rfl, n, rfl⟩
    have HB := Lib.hid hb
    clear hb
    go_wp2
    go_ret
    exact ⟨rfl, below_drewN HB.out _⟩

theorem sMemNew_any (w : World) :
    Calls Try.prog 49 #[] w fun e w' => ∃ v fp, e = .returned (.agg #[v]) ∧ IntS w' (List.replicate 64 0) v fp ∧ New fp w w' ∧ Below w.heap.size w w' := by
  obtain ⟨i0, hi, hz0, hz1, hz2⟩ := info_parts infoInt
  go_enter Try.func49, Try.ntmps49
  go_wp2_with (at_make; refine wpList_make_full _ rfl _ _ 23 rfl (w.heap.size + 1) 3 i0 (.int .i64 0) 1 Try.underlying23 hi hz0 hz1 _ _ _ _ 64 rfl rfl rfl rfl (by rw [hz2]; omega) (by unfold maxLen; omega) (by simp) ?_; intro w1 hown hgr; have hb := below_of_grown hgr; obtain ⟨ru1, ru2⟩ := rules_below hb; have HO := Lib.hid hown; have HB := Lib.hid hb; clear hown hgr hb)
  have hb := HB.out
  have ho : w1.ownsRow (w.heap.size + 1) 3 1 (.slice (some ⟨w.heap.size + 1, 0, none⟩) 64 64) 64 ((List.replicate 64 (0 : Int)).map (Value.int .i64)) := by
    have h := HO.out
    rw [show (madeCells (Value.int .i64 0).cells (64 * 1)).toList = (List.replicate 64 (0 : Int)).map (Value.int .i64) from by simp [Value.cells, toList_madeCells_one]] at h
    simpa using h
  obtain ⟨fp, g1, g2, g3, g4⟩ := IntS.of_owns ho
  have hc : w1.cell? ⟨w.heap.size, 0, none⟩ = some (.slice none 0 0) := by rw [ru1 _ _ (by simp), World.cell?_alloc_at _ _ _ _ rfl]; rfl
  have hB : Below w.heap.size w (w1.setCell ⟨w.heap.size, 0, none⟩ (.slice (some ⟨w.heap.size + 1, 0, none⟩) 64 64)) := (((Below.refl _ _).alloc (Nat.le_refl _) _).trans (hb.mono (by simp))).setCell (Nat.le_refl _) _
  have hs : Same fp w1 (w1.setCell ⟨w.heap.size, 0, none⟩ (.slice (some ⟨w.heap.size + 1, 0, none⟩) 64 64)) := fun b hb' => Below.heap_setCell _ _ _ _ (by have := g2 b hb'; simp; omega)
  exact bodyPost_ret (v := .agg #[.slice (some ⟨w.heap.size + 1, 0, none⟩) 64 64]) (by simp [results, Try.results49, go_sem, World.cell?_setCell_same _ _ _ hc]) rfl
    ⟨_, fp, rfl, g1.same intR_fits hs (by simp), ⟨fun b hb' => by have := g2 b hb'; omega, g3, g4.same hs⟩, hB⟩

theorem iMemNew_any (w : World) :
    Calls Try.prog 46 #[] w fun e w' => ∃ v fp, e = .returned (.agg #[v]) ∧ IntS w' (List.replicate 64 0) v fp ∧ New fp w w' ∧ Below w.heap.size w w' := by
  obtain ⟨i0, hi, hz0, hz1, hz2⟩ := info_parts infoInt
  go_enter Try.func46, Try.ntmps46
  go_wp2_with (at_make; refine wpList_make_full _ rfl _ _ 23 rfl (w.heap.size + 1) 3 i0 (.int .i64 0) 1 Try.underlying23 hi hz0 hz1 _ _ _ _ 64 rfl rfl rfl rfl (by rw [hz2]; omega) (by unfold maxLen; omega) (by simp) ?_; intro w1 hown hgr; have hb := below_of_grown hgr; obtain ⟨ru1, ru2⟩ := rules_below hb; have HO := Lib.hid hown; have HB := Lib.hid hb; clear hown hgr hb)
  have hb := HB.out
  have ho : w1.ownsRow (w.heap.size + 1) 3 1 (.slice (some ⟨w.heap.size + 1, 0, none⟩) 64 64) 64 ((List.replicate 64 (0 : Int)).map (Value.int .i64)) := by
    have h := HO.out
    rw [show (madeCells (Value.int .i64 0).cells (64 * 1)).toList = (List.replicate 64 (0 : Int)).map (Value.int .i64) from by simp [Value.cells, toList_madeCells_one]] at h
    simpa using h
  obtain ⟨fp, g1, g2, g3, g4⟩ := IntS.of_owns ho
  have hc : w1.cell? ⟨w.heap.size, 0, none⟩ = some (.slice none 0 0) := by rw [ru1 _ _ (by simp), World.cell?_alloc_at _ _ _ _ rfl]; rfl
  have hB : Below w.heap.size w (w1.setCell ⟨w.heap.size, 0, none⟩ (.slice (some ⟨w.heap.size + 1, 0, none⟩) 64 64)) := (((Below.refl _ _).alloc (Nat.le_refl _) _).trans (hb.mono (by simp))).setCell (Nat.le_refl _) _
  have hs : Same fp w1 (w1.setCell ⟨w.heap.size, 0, none⟩ (.slice (some ⟨w.heap.size + 1, 0, none⟩) 64 64)) := fun b hb' => Below.heap_setCell _ _ _ _ (by have := g2 b hb'; simp; omega)
  exact bodyPost_ret (v := .agg #[.slice (some ⟨w.heap.size + 1, 0, none⟩) 64 64]) (by simp [results, Try.results46, go_sem, World.cell?_setCell_same _ _ _ hc]) rfl
    ⟨_, fp, rfl, g1.same intR_fits hs (by simp), ⟨fun b hb' => by have := g2 b hb'; omega, g3, g4.same hs⟩, hB⟩


end Go.Proofs.Ytmmojgopeaelcaa
