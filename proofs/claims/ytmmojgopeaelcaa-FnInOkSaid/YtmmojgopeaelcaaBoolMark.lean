/-
  Bools, in the one form: eq.., mark.., held..
-/
import Derived.Test.YtmmojgopeaelcaaProg
import Derived.Test.YtmmojgopeaelcaaBase
import Derived.Test.YtmmojgopeaelcaaBools
import Derived.Test.YtmmojgopeaelcaaRow
import Derived.WalkSmall
namespace Go.Proofs.Ytmmojgopeaelcaa
set_option linter.unusedVariables false
set_option linter.unusedSimpArgs false
open Go.RowKit

def sm_bools (l : List Bool) : Prop := l.length ≤ 1048576

def cnt_bools (l : List Bool) : Int := (l.length : Int)
theorem cnt_bools_in {l : List Bool} (h : sm_bools l) : 0 ≤ cnt_bools l ∧ cnt_bools l ≤ 1048576 := by unfold cnt_bools; unfold sm_bools at h; omega
/-- the marks -/
def bmarks (k : Int) (n : Nat) : List Bool := (List.range n).map fun (i : Nat) => ((k + (i : Int)) % 3 == 0)
theorem bmarks_len (k : Int) (n : Nat) : (bmarks k n).length = n := by simp [bmarks]
theorem bmarks_at (k : Int) (n i : Nat) (h : i < n) (h' : i < (bmarks k n).length) : (bmarks k n)[i] = ((k + (i : Int)) % 3 == 0) := by simp [bmarks]
def bmixed (l : List Bool) (k : Int) (i : Nat) : List Bool := bmarks k i ++ l.drop i
theorem bmixed_zero (l : List Bool) (k : Int) : bmixed l k 0 = l := by simp [bmixed, bmarks]
theorem bmixed_all (l : List Bool) (k : Int) (i : Nat) (h : l.length = i) : bmixed l k i = bmarks k l.length := by simp [bmixed, h]
theorem bmixed_set (l : List Bool) (k : Int) (i : Nat) (h : i < l.length) : (bmixed l k i).set i ((k + (i : Int)) % 3 == 0) = bmixed l k (i + 1) := by
  unfold bmixed
  rw [List.set_append_right _ _ (by simp [bmarks]), List.drop_eq_getElem_cons h, bmarks_len, Nat.sub_self, List.set_cons_zero]
  unfold bmarks
  rw [List.range_succ, List.map_append, List.append_assoc]
  rfl
def mk_bools (k : Int) (l : List Bool) : List Bool := bmarks k l.length

def boolC (x : Bool) : List Value := [.bool x]
theorem boolC_len (x : Bool) : (boolC x).length = 1 := rfl

end Go.Proofs.Ytmmojgopeaelcaa
