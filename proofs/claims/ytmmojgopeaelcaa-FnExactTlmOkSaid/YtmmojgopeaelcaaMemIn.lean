/-
  A store handed in, by value: szMemMem, toMemMem, eqMemMem; what comes from outside: szCycIn, toCycIn, eqCycIn, InOk (both).
-/
import Derived.Test.YtmmojgopeaelcaaProg
import Derived.Test.YtmmojgopeaelcaaBase
import Derived.Test.YtmmojgopeaelcaaInts
import Derived.Test.YtmmojgopeaelcaaInts2
import Derived.Test.YtmmojgopeaelcaaBools
import Derived.Test.YtmmojgopeaelcaaMem
import Derived.KernelRfl
import Derived.WalkSmall
namespace Go.Proofs.Ytmmojgopeaelcaa
set_option linter.unusedVariables false
set_option linter.unusedSimpArgs false
open Go.RowKit Go.ChangeShapes

def memR : Pr (List Int) := fun w x cs fp => ∃ (v : Value) (fq : List Nat), cs = [v] ∧ fp = fq ∧ IntS w x v fq
theorem memR_fits : Fits 1 memR := ⟨fun ⟨v, _, e, _⟩ => by rw [e]; rfl, fun ⟨_, _, _, e, h⟩ => by rw [e]; exact h.lt intR_fits, fun ⟨v, fq, e, e2, h⟩ hs hz => ⟨v, fq, e, e2, h.same intR_fits (by rw [← e2]; exact hs) hz⟩⟩

set_option maxRecDepth 100000 in
theorem opens_mem : Opens Try.prog 58 memR := fun {H enc w fuel cs x} h => by
  obtain ⟨xs, n, _, _, hl, hx, hf⟩ := DataW.trod_struct Try.underlying58 h
  have hk : Try.prog.cellsOf 58 = 1 := by kernel_rfl
  have k2 : Try.prog.cellsOf 23 = 1 := by kernel_rfl
  rw [hk] at hl
  have hx' : xs.length = 1 := hx
  match cs, hl with
  | [c0], _ =>
    obtain ⟨l, fp, v, hv, hs⟩ := (opens_slice Try.underlying23 (by kernel_rfl) (by decide) (opens_int Try.underlying3) intR_fits : Opens Try.prog 23 (slR 1 intR)) ((hf 0 _ rfl).trans (List.getElem?_eq_getElem (by omega)))
    simp [k2] at hv
    subst hv
    exact ⟨l, fp, c0, fp, rfl, rfl, hs⟩

theorem szMem_ok {l : List Int} (h : 0 ≤ szR 1048576 l.length) : l.length ≤ 1048576 := by unfold szR at h; split at h <;> omega

theorem szMem_any (x : List Int) (v : Value) (fp : List Nat) (left : Int) (h0 : 0 ≤ left) (h1 : left ≤ 1048576) (w : World) (g : IntS w x v fp) :
    Calls Try.prog 156 #[.agg #[v], .int .i64 left] w fun e w' => e = .returned (.int .i64 (szR left x.length)) ∧ Below w.heap.size w w' := by
  have G := Lib.hid g
  have HN := Lib.hid (fun h => szR_neg h : szR left x.length < 0 → szR left x.length = -1)
  clear g
  cases hq : decide (szR left x.length < 0)
  all_goals
    go_enter Try.func156, Try.ntmps156
    go_wp2_with fail
    have hb := below_alloc w (.cells #[v] 58)
    refine (szIntS_any v x fp left h0 h1 _ (SlR.below intR_fits G.out hb)).mono ?_
    rintro e w' ⟨rfl, rfl⟩
    have HB := Lib.hid hb
    clear hb
    go_wp2
    go_ret
    first
      | exact ⟨rfl, HB.out⟩
      | exact ⟨ret_int (HN.out (of_decide_eq_true hq)).symm, HB.out⟩

theorem eqMem_any2 (x y : List Int) (v1 v2 : Value) (fp1 fp2 : List Nat) (w : World) (g1 : IntS w x v1 fp1) (g2 : IntS w y v2 fp2) :
    Calls Try.prog 162 #[.agg #[v1], .agg #[v2]] w fun e w' => e = .returned (.bool (decide (x = y))) ∧ Below w.heap.size w w' := eqMem_any v1 v2 x y fp1 fp2 w g1 g2

theorem toMem_any (x : List Int) (v : Value) (fp : List Nat) (hs : x.length ≤ 1048576) (w : World) (g : IntS w x v fp) :
    Calls Try.prog 158 #[.agg #[v]] w fun e w' => ∃ v' fp', e = .returned (.agg #[v']) ∧ IntS w' x v' fp' ∧ New fp' w w' ∧ Below w.heap.size w w' := by
  have G := Lib.hid g
  clear g
  go_enter Try.func158, Try.ntmps158
  go_wp2_with fail
  refine (toIntS_any v x fp hs _ (G.out.below intR_fits (below3 _ _ _ _))).mono ?_
  rintro e w1 ⟨v', fp', rfl, g1, n1, b1⟩
  obtain ⟨a', l', k', rfl⟩ := g1.form
  have c10 := keep_cell b1 (alloc3_mid w _ _ _ _ _ 0 rfl)
  have c20 := keep_cell b1 (alloc3_new w _ _ _ _ _ 0 rfl)
  have f10 := keep_free b1 (by simp) (alloc3_free w _ _ _ _ _ _ 0 (.inl rfl))
  have f20 := keep_free b1 (by simp) (alloc3_free w _ _ _ _ _ _ 0 (.inr rfl))
  have G1 := Lib.hid g1
  have N1 := Lib.hid n1
  have B1 := Lib.hid b1
  clear g1 n1 b1
  go_wp2
  have hlo : ∀ b, b ∈ fp' → w.heap.size + 1 + 1 < b := fun b hb => by have := N1.out.lo b hb; simp at this; omega
  have hsame : ∀ {u1 u2 : Value}, Same fp' w1 ((w1.setCell ⟨w.heap.size + 1 + 1, 0, none⟩ u1).setCell ⟨w.heap.size + 1, 0, none⟩ u2) := fun b hb => by
    have := hlo b hb
    rw [Below.heap_setCell _ _ _ _ (by simp; omega), Below.heap_setCell _ _ _ _ (by simp; omega)]
  have hB : Below w.heap.size w w1 := (below3 w _ _ _).trans (B1.out.mono (by simp; omega))
  exact bodyPost_ret (v := .agg #[.slice a' l' k']) (by simp [results, Try.results158, go_sem, c10]) rfl
    ⟨_, fp', rfl, G1.out.same intR_fits hsame (by simp), ⟨fun b hb => by have := hlo b hb; omega, N1.out.once, N1.out.free.same hsame⟩, (hB.setCell (by simp; omega) _).setCell (by simp) _⟩

end Go.Proofs.Ytmmojgopeaelcaa
