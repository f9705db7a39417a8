/-
  A statement whose order is open, walked order by order: one operation more, walked alone. No program in sight.
-/
import Derived.Test.YtjapdkjfnmjicaaRegion
import Derived.RegionTactic
namespace Go.Proofs.Ytjapdkjfnmjicaa
set_option linter.unusedVariables false
set_option linter.unusedSimpArgs false
open Go

variable {P : Program} {ops : Array Oper} {Q : Exit → Act → World → Prop} {md : Region.Mode}

theorem via_step {i : Nat} {o : Oper} {K : Act → World → Prop} {a : Act} {w : World} (ho : ops[i]? = some o) (hg : o.guard = none) (hs : ∀ cs b, o.op ≠ .select cs b) (hd : ∀ d, o.dst = some d → d < a.tmps.size) (G : Value → World → Prop)
    (h : wpList P #[] (Via a o G) [o] a w) (hk : ∀ v w', G v w' → K (a.put o.dst v) w') : wpOp P ops Q i K a w := by
  refine wpOp_step ho fun K' hK' => ?_
  rw [if_pos (by simp [Region.wanted, hg])]
  exact Oper.wp_mono (fun a' w' ⟨v, e, hG⟩ => by subst e; exact hK' _ _ (hk v w' hG)) (wp_via (Q := Q) hg hs (fun _ _ => rfl) hd h)

/-- of the operations that may come next each is walked alone -/
theorem any_via {rs : List Nat} {fuel : Nat} {listed : Array Bool} {a : Act} {w : World} (hr : Region.ready md ops listed = rs) (hne : rs ≠ [])
    (h : ∀ i, i ∈ rs → ∃ (o : Oper) (G : Value → World → Prop), ops[i]? = some o ∧ o.guard = none ∧ (∀ cs b, o.op ≠ .select cs b) ∧ (∀ d, o.dst = some d → d < a.tmps.size) ∧ wpList P #[] (Via a o G) [o] a w ∧ ∀ v w', G v w' → wpAny P md ops Q fuel (listed.setIfInBounds i true) (a.put o.dst v) w') :
    wpAny P md ops Q (fuel + 1) listed a w :=
  wpAny_ready hr hne fun i hi => by
    obtain ⟨o, G, h1, h2, h3, h4, h5, h6⟩ := h i hi
    exact via_step h1 h2 h3 h4 G h5 h6

theorem any_one {i : Nat} {o : Oper} {fuel : Nat} {listed : Array Bool} {a : Act} {w : World} (hr : Region.ready md ops listed = [i]) (ho : ops[i]? = some o) (hg : o.guard = none) (hs : ∀ cs b, o.op ≠ .select cs b) (hd : ∀ d, o.dst = some d → d < a.tmps.size) (G : Value → World → Prop)
    (h : wpList P #[] (Via a o G) [o] a w) (hk : ∀ v w', G v w' → wpAny P md ops Q fuel (listed.setIfInBounds i true) (a.put o.dst v) w') : wpAny P md ops Q (fuel + 1) listed a w :=
  wpAny_ready hr (by simp) fun j hj => by
    obtain rfl : j = i := by simpa using hj
    exact via_step ho hg hs hd G h hk

theorem any_two {i j : Nat} {o p : Oper} {fuel : Nat} {listed : Array Bool} {a : Act} {w : World} (hr : Region.ready md ops listed = [i, j]) (ho : ops[i]? = some o) (hp : ops[j]? = some p) (hg : o.guard = none) (hg' : p.guard = none) (hs : ∀ cs b, o.op ≠ .select cs b) (hs' : ∀ cs b, p.op ≠ .select cs b)
    (hd : ∀ d, o.dst = some d → d < a.tmps.size) (hd' : ∀ d, p.dst = some d → d < a.tmps.size) (G G' : Value → World → Prop)
    (h : wpList P #[] (Via a o G) [o] a w) (hk : ∀ v w', G v w' → wpAny P md ops Q fuel (listed.setIfInBounds i true) (a.put o.dst v) w')
    (h' : wpList P #[] (Via a p G') [p] a w) (hk' : ∀ v w', G' v w' → wpAny P md ops Q fuel (listed.setIfInBounds j true) (a.put p.dst v) w') : wpAny P md ops Q (fuel + 1) listed a w :=
  wpAny_ready hr (by simp) fun q hq => by
    rcases List.mem_cons.1 hq with rfl | hq
    · exact via_step ho hg hs hd G h hk
    · obtain rfl : q = j := by simpa using hq
      exact via_step hp hg' hs' hd' G' h' hk'

end Go.Proofs.Ytjapdkjfnmjicaa
