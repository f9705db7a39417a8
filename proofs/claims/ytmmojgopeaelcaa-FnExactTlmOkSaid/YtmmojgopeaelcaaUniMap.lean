/-
  Ranges, in the one form: sz.., eq.., to...
-/
import Derived.Test.YtmmojgopeaelcaaUni
import Derived.Test.YtmmojgopeaelcaaMapEq
namespace Go.Proofs.Ytmmojgopeaelcaa
set_option linter.unusedVariables false
set_option linter.unusedSimpArgs false
open Go.RowKit

def sm_mrs (l : List MR) : Prop := l.length ≤ 1048576

theorem sz_mrs (v : Value) (x : List MR) (fp : List Nat) (left : Int) (h0 : 0 ≤ left) (h1 : left ≤ 1048576) (w : World) (g : SlR 4 mrR w x v fp) :
    Calls Try.prog 67 #[v, .int .i64 left] w (SzP left (sm_mrs x) w) :=
  (szMrS_any v x fp left h0 h1 w g).mono fun _ _ ⟨he, hw⟩ => by subst hw; exact SzP.exact h0 h1 he id (Below.refl _ _)

theorem eq_mrs (v1 v2 : Value) (l1 l2 : List MR) (fp1 fp2 : List Nat) (w : World) (g1 : SlR 4 mrR w l1 v1 fp1) (g2 : SlR 4 mrR w l2 v2 fp2) :
    Calls Try.prog 80 #[v1, v2] w fun e w' => e = .returned (.bool (decide (l1 = l2))) ∧ Below w.heap.size w w' := eqMrS_any v1 v2 l1 l2 fp1 fp2 w g1 g2

theorem to_mrs (v : Value) (l : List MR) (fp : List Nat) (hs : sm_mrs l) (w : World) (g : SlR 4 mrR w l v fp) :
    Calls Try.prog 72 #[v] w fun e w' => ∃ v' fp', e = .returned v' ∧ SlR 4 mrR w' l v' fp' ∧ New fp' w w' ∧ Below w.heap.size w w' := toMrS_any v l fp hs w g

end Go.Proofs.Ytmmojgopeaelcaa
