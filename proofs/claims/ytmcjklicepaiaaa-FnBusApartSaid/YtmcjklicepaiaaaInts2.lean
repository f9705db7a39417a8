/-
  What the functions on lists of numbers do: toIntS, markIntS, heldIntS.
-/
import Derived.Test.YtmcjklicepaiaaaProg
import Derived.Test.YtmcjklicepaiaaaBase
import Derived.Deep.QuietTactic
import Derived.BigQuiet
import Derived.OwnWalk
namespace Go.Proofs.Ytmcjklicepaiaaa
set_option linter.unusedVariables false
set_option linter.unusedSimpArgs false
open Go.RowKit

theorem infoInt : (Try.prog.info? 3).map (fun i => (i.zero, i.size, i.bytes)) = some (some (.int .i64 0), 1, 8) := by kernel_rfl

/-- the first k taken over, the others still nought -/
def part (l : List Int) (k : Nat) : List Value := (l.take k).map (Value.int .i64) ++ List.replicate (l.length - k) (.int .i64 0)
theorem part_len (l : List Int) (k : Nat) (h : k ≤ l.length) : (part l k).length = l.length := by simp [part]; omega
theorem part_zero (l : List Int) : part l 0 = List.replicate l.length (.int .i64 0) := by simp [part]
theorem part_all (l : List Int) (k : Nat) (h : l.length ≤ k) : part l k = l.map (Value.int .i64) := by simp [part, List.take_of_length_le h]; omega
theorem part_set (l : List Int) (k : Nat) (h : k < l.length) : (part l k).set k (.int .i64 l[k]) = part l (k + 1) := by
  have e : l.length - k = (l.length - (k + 1)) + 1 := by omega
  unfold part
  rw [List.set_append_right _ _ (by simp; omega), List.take_succ_eq_append_getElem h, e, List.replicate_succ]
  simp only [List.length_map, List.length_take, Nat.min_eq_left (Nat.le_of_lt h), Nat.sub_self, List.set_cons_zero, List.map_append, List.map_cons, List.map_nil, List.append_assoc, List.singleton_append]

/-- k, k + 1, .. -/
def marks (k : Int) (n : Nat) : List Int := (List.range n).map fun (i : Nat) => k + (i : Int)
theorem marks_len (k : Int) (n : Nat) : (marks k n).length = n := by simp [marks]
def mixed (l : List Int) (k : Int) (i : Nat) : List Int := marks k i ++ l.drop i
theorem mixed_len (l : List Int) (k : Int) (i : Nat) (h : i ≤ l.length) : (mixed l k i).length = l.length := by simp [mixed, marks]; omega
theorem mixed_zero (l : List Int) (k : Int) : mixed l k 0 = l := by simp [mixed, marks]
theorem mixed_all (l : List Int) (k : Int) (i : Nat) (h : l.length = i) : mixed l k i = marks k l.length := by simp [mixed, h]
theorem mixed_set (l : List Int) (k : Int) (i : Nat) (h : i < l.length) : (mixed l k i).set i (k + i) = mixed l k (i + 1) := by
  unfold mixed
  have e : marks k (i + 1) = marks k i ++ [k + (i : Int)] := by simp [marks, List.range_succ]
  rw [List.set_append_right _ _ (by simp [marks]), List.drop_eq_getElem_cons h, marks_len, Nat.sub_self, List.set_cons_zero, e, List.append_assoc]
  rfl
theorem marks_take (k : Int) (n i : Nat) (h : i ≤ n) : (marks k n).take i = marks k i := by
  simp [marks, List.take_range, Nat.min_eq_left h, ← List.map_take]
theorem marks_at (k : Int) (n i : Nat) (h : i < n) : (marks k n)[i]'(by rw [marks_len]; exact h) = k + i := by simp [marks]

/-- what 'held' returns -/
def heldR (l : List Int) (k : Int) : Int := if l = marks k l.length then k + l.length else -1

end Go.Proofs.Ytmcjklicepaiaaa
