/-
  What one says of the values of a statement whose order is open, while only the blocks of a list turn.
-/
import Derived.Test.YtaeiddoccfaheaaDoorBase
import Derived.Test.YtaeiddoccfaheaaDoorRegion
namespace Go.Proofs.YtaeiddoccfaheaaDoor
set_option linter.unusedVariables false
set_option linter.unusedSimpArgs false
open Go.RowKit

abbrev Fact := Value → World → Prop
def FAny : Fact := fun _ _ => True
def FEq (c : Value) : Fact := fun v _ => v = c
def FInt (lo hi : Int) : Fact := fun v _ => ∃ x : Int, lo ≤ x ∧ x ≤ hi ∧ v = .int .i64 x
def FBool : Fact := fun v _ => ∃ x : Bool, v = .bool x
/-- a slice of n numbers in these bounds, in a block that does not turn -/
def FSl (fp : List Nat) (n : Nat) (lo hi : Int) : Fact := fun v w => ∃ b : Nat, v = .slice (some ⟨b, 0, none⟩) n n ∧ b ∉ fp ∧ ∀ i, i < n → ∃ x : Int, lo ≤ x ∧ x ≤ hi ∧ w.cell? ⟨b, i, none⟩ = some (.int .i64 x)
def FPtr (fp : List Nat) (lo hi : Int) : Fact := fun v w => ∃ (b i : Nat) (x : Int), v = .pointer (some ⟨b, i, none⟩) ∧ b ∉ fp ∧ lo ≤ x ∧ x ≤ hi ∧ w.cell? ⟨b, i, none⟩ = some (.int .i64 x)

def Stable (fp : List Nat) (F : Fact) : Prop := ∀ v w w', F v w → Chg fp w w' → F v w'
theorem stAny (fp : List Nat) : Stable fp FAny := fun _ _ _ _ _ => trivial
theorem stEq (fp : List Nat) (c : Value) : Stable fp (FEq c) := fun _ _ _ h _ => h
theorem stInt (fp : List Nat) (lo hi : Int) : Stable fp (FInt lo hi) := fun _ _ _ h _ => h
theorem stBool (fp : List Nat) : Stable fp FBool := fun _ _ _ h _ => h
theorem stSl (fp : List Nat) (n : Nat) (lo hi : Int) : Stable fp (FSl fp n lo hi) := fun _ _ _ ⟨b, e, hb, hc⟩ hg => ⟨b, e, hb, fun i hi => by
  obtain ⟨x, h1, h2, h3⟩ := hc i hi
  exact ⟨x, h1, h2, keep_cell_chg hg h3 hb⟩⟩
theorem stPtr (fp : List Nat) (lo hi : Int) : Stable fp (FPtr fp lo hi) := fun _ _ _ ⟨b, i, x, e, hb, h1, h2, h3⟩ hg => ⟨b, i, x, e, hb, h1, h2, keep_cell_chg hg h3 hb⟩

/-- the facts of a statement's operations, by their places -/
def facts (l : List Fact) (j : Nat) : Value → World → Prop := (l[j]?).getD FAny
theorem facts_stable {fp : List Nat} {l : List Fact} (h : ∀ F, F ∈ l → Stable fp F) {w w' : World} (hc : Chg fp w w') : ∀ j x, facts l j x w → facts l j x w' := by
  intro j x hx
  unfold facts at *
  cases hj : l[j]? with
  | none => trivial
  | some F => rw [hj] at hx; exact h F (List.mem_of_getElem? hj) x w w' hx hc

/-- a struct, by value, that reads so -/
def FRep {α : Type} (R : Pr α) (x : α) : Fact := fun v w => ∃ (cs : List Value) (fp : List Nat), v = .agg cs.toArray ∧ R w x cs fp
theorem stRep {α : Type} {k : Nat} {R : Pr α} (F : Fits k R) (x : α) : Stable [] (FRep R x) := fun _ _ _ ⟨cs, fp, e, h⟩ hc => ⟨cs, fp, e, F.chg h hc (fun _ _ => by simp)⟩
/-- a slice that reads so -/
def FSlR {α : Type} (k : Nat) (R : Pr α) (x : List α) : Fact := fun v w => ∃ (fp : List Nat), SlR k R w x v fp
theorem stSlR {α : Type} {k : Nat} {R : Pr α} (F : Fits k R) (x : List α) : Stable [] (FSlR k R x) := fun _ _ _ ⟨fp, h⟩ hc => ⟨fp, h.chg F hc (fun _ _ => by simp)⟩

/-- a slice of n numbers that are so, in a block that does not turn -/
def FSlP (fp : List Nat) (n : Nat) (p : Int → Prop) : Fact := fun v w => ∃ b : Nat, v = .slice (some ⟨b, 0, none⟩) n n ∧ b ∉ fp ∧ ∀ i, i < n → ∃ x : Int, p x ∧ w.cell? ⟨b, i, none⟩ = some (.int .i64 x)
def FPtrP (fp : List Nat) (p : Int → Prop) : Fact := fun v w => ∃ (b i : Nat) (x : Int), v = .pointer (some ⟨b, i, none⟩) ∧ b ∉ fp ∧ p x ∧ w.cell? ⟨b, i, none⟩ = some (.int .i64 x)
def FIntP (p : Int → Prop) : Fact := fun v _ => ∃ x : Int, p x ∧ v = .int .i64 x
theorem stSlP (fp : List Nat) (n : Nat) (p : Int → Prop) : Stable fp (FSlP fp n p) := fun _ _ _ ⟨b, e, hb, hc⟩ hg => ⟨b, e, hb, fun i hi => by
  obtain ⟨x, h1, h3⟩ := hc i hi
  exact ⟨x, h1, keep_cell_chg hg h3 hb⟩⟩
theorem stPtrP (fp : List Nat) (p : Int → Prop) : Stable fp (FPtrP fp p) := fun _ _ _ ⟨b, i, x, e, hb, h1, h3⟩ hg => ⟨b, i, x, e, hb, h1, keep_cell_chg hg h3 hb⟩
theorem stIntP (fp : List Nat) (p : Int → Prop) : Stable fp (FIntP p) := fun _ _ _ h _ => h

end Go.Proofs.YtaeiddoccfaheaaDoor
