/-
  What comes from outside: szCycIn, toCycIn, eqCycIn, InOk (both).
-/
import Derived.Test.YtmmojgopeaelcaaProg
import Derived.Test.YtmmojgopeaelcaaBase
import Derived.Test.YtmmojgopeaelcaaInts
import Derived.Test.YtmmojgopeaelcaaInts2
import Derived.Test.YtmmojgopeaelcaaBools
import Derived.Test.YtmmojgopeaelcaaNew
import Derived.KernelRfl
import Derived.WalkSmall
namespace Go.Proofs.Ytmmojgopeaelcaa
set_option linter.unusedVariables false
set_option linter.unusedSimpArgs false
open Go.RowKit Go.ChangeShapes

structure CycIn where
  ready : List Bool
  stall : List Bool
  send : List Bool
  deriving DecidableEq

def cycInR : Pr CycIn := fun w x cs fp => ∃ (v0 v1 v2 : Value) (fp0 fp1 fp2 : List Nat), cs = [v0, v1, v2] ∧ fp = fp0 ++ fp1 ++ fp2 ∧ SlR 1 boolR w x.ready v0 fp0 ∧ SlR 1 boolR w x.stall v1 fp1 ∧ SlR 1 boolR w x.send v2 fp2

def szIn (left : Int) (x : CycIn) : Int := szR left (x.ready.length + x.stall.length + x.send.length)
theorem szIn_neg {x : CycIn} (h : szIn 1048576 x < 0) : szIn 1048576 x = -1 := szR_neg h
theorem szIn_ok {x : CycIn} (h : 0 ≤ szIn 1048576 x) : x.ready.length + x.stall.length + x.send.length ≤ 1048576 := by unfold szIn szR at h; split at h <;> omega

/-- what may come from outside -/
def inOk (x : CycIn) : Bool := decide (x.ready.length = 3) && decide (x.stall.length = 4) && decide (x.send.length = 3)

theorem sInOk_any (x : CycIn) (v0 v1 v2 : Value) (fp0 fp1 fp2 : List Nat) (w : World) (g0 : SlR 1 boolR w x.ready v0 fp0) (g1 : SlR 1 boolR w x.stall v1 fp1) (g2 : SlR 1 boolR w x.send v2 fp2) :
    Calls Try.prog 53 #[.agg #[v0, v1, v2]] w fun e w' => e = .returned (.bool (inOk x)) ∧ Below w.heap.size w w' := by
  have hb := below_alloc w (.cells #[v0, v1, v2] 86)
  have HB := Lib.hid hb
  obtain ⟨a0, n0, c0, rfl, hn0, _, _, _, _⟩ := g0.opened
  obtain ⟨a1, n1, c1, rfl, hn1, _, _, _, _⟩ := g1.opened
  obtain ⟨a2, n2, c2, rfl, hn2, _, _, _, _⟩ := g2.opened
  have HO : Hid (inOk x = ((n0 : Int) == 3 && (n1 : Int) == 4 && (n2 : Int) == 3)) := Lib.hid (by unfold inOk; rw [hn0.out, hn1.out, hn2.out, Bool.eq_iff_iff]; simp; omega)
  clear hb g0 g1 g2 hn0 hn1 hn2
  cases q0 : (n0 : Int) == 3
  all_goals cases q1 : (n1 : Int) == 4
  all_goals cases q2 : (n2 : Int) == 3
  all_goals
    have H0 := Lib.hid q0
    have H1 := Lib.hid q1
    have H2 := Lib.hid q2
    go_enter Try.func53, Try.ntmps53
    go_wp2
    go_ret
    exact ⟨ret_bool (by rw [HO.out, H0.out, H1.out, H2.out]; rfl), HB.out⟩

theorem iInOk_any (x : CycIn) (v0 v1 v2 : Value) (fp0 fp1 fp2 : List Nat) (w : World) (g0 : SlR 1 boolR w x.ready v0 fp0) (g1 : SlR 1 boolR w x.stall v1 fp1) (g2 : SlR 1 boolR w x.send v2 fp2) :
    Calls Try.prog 51 #[.agg #[v0, v1, v2]] w fun e w' => e = .returned (.bool (inOk x)) ∧ Below w.heap.size w w' := by
  have hb := below_alloc w (.cells #[v0, v1, v2] 86)
  have HB := Lib.hid hb
  obtain ⟨a0, n0, c0, rfl, hn0, _, _, _, _⟩ := g0.opened
  obtain ⟨a1, n1, c1, rfl, hn1, _, _, _, _⟩ := g1.opened
  obtain ⟨a2, n2, c2, rfl, hn2, _, _, _, _⟩ := g2.opened
  have HO : Hid (inOk x = ((n0 : Int) == 3 && (n1 : Int) == 4 && (n2 : Int) == 3)) := Lib.hid (by unfold inOk; rw [hn0.out, hn1.out, hn2.out, Bool.eq_iff_iff]; simp; omega)
  clear hb g0 g1 g2 hn0 hn1 hn2
  cases q0 : (n0 : Int) == 3
  all_goals cases q1 : (n1 : Int) == 4
  all_goals cases q2 : (n2 : Int) == 3
  all_goals
    have H0 := Lib.hid q0
    have H1 := Lib.hid q1
    have H2 := Lib.hid q2
    go_enter Try.func51, Try.ntmps51
    go_wp2
    go_ret
    exact ⟨ret_bool (by rw [HO.out, H0.out, H1.out, H2.out]; rfl), HB.out⟩

end Go.Proofs.Ytmmojgopeaelcaa
