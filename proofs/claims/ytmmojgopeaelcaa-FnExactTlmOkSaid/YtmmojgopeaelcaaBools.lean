/-
  What the functions on lists of bools do: szBoolS, eqBoolS, toBoolS.
-/
import Derived.Test.YtmmojgopeaelcaaProg
import Derived.Test.YtmmojgopeaelcaaBase
import Derived.Deep.QuietTactic
import Derived.BigQuiet
import Derived.OwnWalk
namespace Go.Proofs.Ytmmojgopeaelcaa
set_option linter.unusedVariables false
set_option linter.unusedSimpArgs false
open Go.RowKit

theorem infoBool : (Try.prog.info? 4).map (fun i => (i.zero, i.size, i.bytes)) = some (some (.bool false), 1, 1) := by kernel_rfl

/-- the first k taken over, the others still nought -/
def bpt (l : List Bool) (k : Nat) : List Value := (l.take k).map Value.bool ++ List.replicate (l.length - k) (.bool false)
theorem bpt_len (l : List Bool) (k : Nat) (h : k ≤ l.length) : (bpt l k).length = l.length := by simp [bpt]; omega
theorem bpt_zero (l : List Bool) : bpt l 0 = List.replicate l.length (.bool false) := by simp [bpt]
theorem bpt_all (l : List Bool) (k : Nat) (h : l.length ≤ k) : bpt l k = l.map Value.bool := by simp [bpt, List.take_of_length_le h]; omega
theorem bpt_set (l : List Bool) (k : Nat) (h : k < l.length) : (bpt l k).set k (.bool l[k]) = bpt l (k + 1) := by
  have e : l.length - k = (l.length - (k + 1)) + 1 := by omega
  unfold bpt
  rw [List.set_append_right _ _ (by simp; omega), List.take_succ_eq_append_getElem h, e, List.replicate_succ]
  simp only [List.length_map, List.length_take, Nat.min_eq_left (Nat.le_of_lt h), Nat.sub_self, List.set_cons_zero, List.map_append, List.map_cons, List.map_nil, List.append_assoc, List.singleton_append]

end Go.Proofs.Ytmmojgopeaelcaa
