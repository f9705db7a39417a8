/-
  Events as keys of a map.
-/
import Derived.Test.YtmmojgopeaelcaaProg
import Derived.Test.YtmmojgopeaelcaaMapM
import Derived.Test.YtmmojgopeaelcaaSame
import Derived.DeepKeys4
import Derived.KernelRfl
namespace Go.Proofs.Ytmmojgopeaelcaa
set_option linter.unusedVariables false
set_option linter.unusedSimpArgs false
open Go.RowKit Go.Maps Go.WideMaps

theorem evKeyed : Keyed Try.prog 39 :=
  Keyed.of_law (deep_law_laid (by kernel_rfl) (m := 2) (by omega) (of_decide_eq_true (by kernel_rfl)) (by kernel_rfl) (by kernel_rfl))

theorem types_pos : ∃ m, Try.prog.types.size = m + 1 := by
  have h : 0 < Try.prog.types.size := of_decide_eq_true (by kernel_rfl)
  exact ⟨Try.prog.types.size - 1, by omega⟩

theorem wf_small {z : Int} (h : -1000000 ≤ z ∧ z ≤ 1000000) : (Lit.int .i64 z).wf = true := WalkArith.wf_i64 (by omega)

theorem key_of3 {P : Program} {K I : TypeId} {f0 f1 f2 : Field} (hu : P.underlying K = some (.struct #[f0, f1, f2])) (hk : P.keyType K = true) (hc : P.cellsOf K = 3) (hi : P.underlying I = some (.int .i64)) (hc1 : P.cellsOf I = 1)
    (t0 : f0.type = I) (t1 : f1.type = I) (t2 : f2.type = I) (o0 : f0.offset = 0) (o1 : f1.offset = 1) (o2 : f2.offset = 2) (n0 : f0.name ≠ "_") (n1 : f1.name ≠ "_") (n2 : f2.name ≠ "_") (hs : ∃ m, P.types.size = m + 1)
    {a b c : Int} (w0 : (Lit.int .i64 a).wf = true) (w1 : (Lit.int .i64 b).wf = true) (w2 : (Lit.int .i64 c).wf = true) : ∃ l, keyOf P K (.agg #[.int .i64 a, .int .i64 b, .int .i64 c]) = some l := by
  obtain ⟨m, hm⟩ := hs
  have hl : P.keyLits (P.types.size + 1) K [.int .i64 a, .int .i64 b, .int .i64 c] = some [.int .i64 a, .int .i64 b, .int .i64 c] := by
    rw [hm]
    simp [Program.keyLits, hu, hc, t0, t1, t2, o0, o1, o2, n0, n1, n2, hi, hc1, w0, w1, w2]
  have hf : (Value.agg #[.int .i64 a, .int .i64 b, .int .i64 c]).formed P K = true := by simp [Value.formed, hu, hc]
  refine ⟨.string (keyBytes [.int .i64 a, .int .i64 b, .int .i64 c]), ?_⟩
  unfold keyOf
  rw [hu]
  simp only [hk, hf, Bool.and_self, if_true, Value.cells]
  rw [hl]
  rfl

theorem ev_key (e : Ev) (h0 : -1000000 ≤ e.kind ∧ e.kind ≤ 1000000) (h1 : -1000000 ≤ e.who ∧ e.who ≤ 1000000) (h2 : -1000000 ≤ e.n ∧ e.n ≤ 1000000) : ∃ l, keyOf Try.prog 39 (evV e) = some l :=
  key_of3 Try.underlying39 (by kernel_rfl) (by kernel_rfl) Try.underlying3 (by kernel_rfl) rfl rfl rfl rfl rfl rfl (by decide) (by decide) (by decide) types_pos (wf_small h0) (wf_small h1) (wf_small h2)

theorem evV_inj : ∀ x y : Ev, evV x = evV y → x = y := by
  intro x y h
  obtain ⟨a, b, c⟩ := x
  obtain ⟨d, e, f⟩ := y
  simp only [evV, Value.agg.injEq, Array.mk.injEq, List.cons.injEq, Value.int.injEq, true_and, and_true] at h
  obtain ⟨rfl, rfl, rfl⟩ := h
  rfl

theorem zero_int (w : World) : (zeroValue 3).run Try.prog w = .ok (.int .i64 0) w := by kernel_rfl
theorem zero_bool (w : World) : (zeroValue 4).run Try.prog w = .ok (.bool false) w := by kernel_rfl

end Go.Proofs.Ytmmojgopeaelcaa
