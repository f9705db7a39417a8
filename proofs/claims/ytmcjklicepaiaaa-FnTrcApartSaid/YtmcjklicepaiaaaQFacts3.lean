/-
  Facts for statements whose order is open: a new block, written behind all else. Nothing here speaks of the program.
-/
import Derived.Test.YtmcjklicepaiaaaPk01
import Derived.Test.YtmcjklicepaiaaaPk05
import Derived.Test.YtmcjklicepaiaaaPk19
namespace Go.Proofs.Ytmcjklicepaiaaa
set_option linter.unusedVariables false
set_option linter.unusedSimpArgs false
open Go.RowKit

/-- no number stands in a block -/
def NoInt (w : World) (q : Nat) : Prop := ∀ i x, w.cell? ⟨q, i, none⟩ ≠ some (.int .i64 x)

theorem SlR.noInt_chg {w w' : World} {l : List Int} {v : Value} {fp : List Nat} {q : Nat} (h : SlR 1 intR w l v fp) (hq : NoInt w q) (hc : Chg [q] w w') : ∃ f, SlR 1 intR w' l v f := by
  have h' := h
  obtain ⟨a, n, cap, rfl, hn, hcap, hcm, ⟨rfl, rfl⟩ | ⟨b, off, fps, rfl, hb, rfl, hf, hcc⟩⟩ := h
  · exact ⟨[], a, n, cap, rfl, hn, hcap, hcm, .inl ⟨rfl, rfl⟩⟩
  · by_cases hl : l = []
    · exact ⟨[], _, n, cap, rfl, hn, hcap, hcm, .inl ⟨hl, rfl⟩⟩
    · refine ⟨_, h'.chg intR_fits hc fun c hm hm' => ?_⟩
      simp only [List.mem_singleton] at hm'
      subst hm'
      have hl0 : 0 < l.length := List.length_pos_iff.2 hl
      rcases List.mem_cons.1 hm with rfl | hm
      · obtain ⟨cs, ⟨rfl, _⟩, h1⟩ := hcc 0 hl0 (by omega)
        exact hq _ _ (h1 0 (by simp))
      · obtain ⟨f, hf1, hf2⟩ := List.mem_flatten.1 hm
        obtain ⟨i, hi, rfl⟩ := List.mem_iff_getElem.1 hf1
        obtain ⟨cs, ⟨_, h0⟩, _⟩ := hcc i (by omega) hi
        rw [h0] at hf2
        simp at hf2

theorem noInt_alloc1 (w : World) (a n c : _) (T : TypeId) : NoInt (w.alloc (.cells #[.slice a n c] T)) w.heap.size := by
  intro i x h
  rw [World.cell?_alloc_at _ _ _ _ rfl] at h
  match i, h with
  | 0, h => cases h
  | i + 1, h => simp at h

def FBlk1 (n : Nat) (x0 : Value) : Fact := fun v w => ∃ q : Nat, v = .pointer (some ⟨q, 0, none⟩) ∧ n ≤ q ∧ q < w.heap.size ∧ w.cell? ⟨q, 0, none⟩ = some x0 ∧ w.frozen? ⟨q, 0, none⟩ = false ∧ NoInt w q
theorem stBlk1 (n : Nat) (x0 : Value) : Stable [] (FBlk1 n x0) := fun _ _ _ ⟨q, e, h1, h2, h3, h5, h7⟩ hc => ⟨q, e, h1, Nat.lt_of_lt_of_le h2 hc.size, keep_cell_chg hc h3 (by simp), (World.frozen?_of_block (hc.block q h2 (by simp))).trans h5, fun i x h => h7 i x ((World.cell?_of_block (hc.block q h2 (by simp))).symm.trans h)⟩

end Go.Proofs.Ytmcjklicepaiaaa
