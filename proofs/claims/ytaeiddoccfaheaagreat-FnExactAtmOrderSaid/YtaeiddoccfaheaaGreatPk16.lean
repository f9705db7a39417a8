/-
 Texts of this claim laid together: Facts.
-/
import Derived.Test.YtaeiddoccfaheaaGreatPk04
import Derived.Test.YtaeiddoccfaheaaGreatPk01
set_option linter.unusedVariables false
set_option linter.unusedSimpArgs false
namespace Go.Proofs.YtaeiddoccfaheaaGreat
open Go.RowKit
abbrev Fact := Value -> World -> Prop
def FAny : Fact := fun _ _ => True
def FEq (c : Value) : Fact := fun v _ => v = c
def Stable (fp : List Nat) (F : Fact) : Prop := ∀ v w w', F v w -> Chg fp w w' -> F v w'
theorem stEq (fp : List Nat) (c : Value) : Stable fp (FEq c) := fun _ _ _ h _ => h
def facts (l : List Fact) (j : Nat) : Value -> World -> Prop := (l[j]?).getD FAny
theorem facts_stable {fp : List Nat} {l : List Fact} (h : ∀ F, F ∈ l -> Stable fp F) {w w' : World} (hc : Chg fp w w') : ∀ j x, facts l j x w -> facts l j x w' := by
 intro j x hx
 unfold facts at *
 cases hj : l[j]? with
 | none => trivial
 | some F => rw [hj] at hx; exact h F (List.mem_of_getElem? hj) x w w' hx hc
end Go.Proofs.YtaeiddoccfaheaaGreat
