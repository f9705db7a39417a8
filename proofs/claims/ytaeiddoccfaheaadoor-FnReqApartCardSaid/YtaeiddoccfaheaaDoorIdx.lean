/-
  IndexFunc and ContainsFunc at the program's own function literals over numbers: areWords.
-/
import Derived.Test.YtaeiddoccfaheaaDoorProg
import Derived.Test.YtaeiddoccfaheaaDoorBase
import Derived.Test.YtaeiddoccfaheaaDoorWrd
namespace Go.Proofs.YtaeiddoccfaheaaDoor
set_option linter.unusedVariables false
set_option linter.unusedSimpArgs false
open Go.RowKit

def notWord (x : Int) : Bool := !inB x 0 65535

theorem areWords1_any (x : Int) (w : World) :
    Calls Tryd.prog 50 #[.int .i64 x] w fun e w' => e = .returned (.bool (notWord x)) ∧ Below w.heap.size w w' := by
  go_enter Tryd.func50, Tryd.ntmps50
  go_wp2_with (go_at_call 51; refine (isWord_any _ _).mono ?_; rintro e w' ⟨rfl, rfl⟩)
  go_ret
  exact ⟨rfl, Below.refl _ _⟩

theorem indexWords  (v : Value) (l : List Int) (fp : List Nat) (w : World)  (g : SlR 1 intR w l v fp) :
    Calls Tryd.prog 54 #[v, .func (.func 50) #[] #[]] w fun e w' => e = .returned (.int .i64 (idxOf notWord l)) ∧ Below w.heap.size w w' := by
  obtain ⟨a, n, c, rfl, hn, hcap, hmax, hcm, r⟩ := g.opened
  have G := Lib.hid g
  clear g
  go_enter Tryd.func54, Tryd.ntmps54
  go_wp2_with fail
  go_loopw [8] (fun i wr => ∃ k : Nat, k ≤ n ∧ i = .int .i64 k ∧ (∀ j (h : j < l.length), j < k → notWord l[j] = false) ∧ Below w.heap.size w wr) (fun i _ => n - (intOf i).toNat)
  case atStart => exact ⟨0, Nat.zero_le _, rfl, fun j _ h => absurd h (Nat.not_lt_zero j), Below.refl _ _⟩
  case round =>
    obtain ⟨k, hk, rfl, hp, hb⟩ := hrel
    have HP := Lib.hid hp
    have HB := Lib.hid hb
    clear hp
    by_cases hlt : k < n
    · obtain ⟨i1, b1, o1, f1, cs, rfl, hb1, hbf, hff, hR, e1⟩ := r k hlt
      have HR := Lib.hid hR
      obtain ⟨rfl, rfl⟩ := hR
      have c0 := (hb.cell (p := ⟨b1, o1 + k * 1 + 0, none⟩) hb1).trans (e1 0 (by simp))
      simp only [Nat.mul_one, Nat.add_zero, List.getElem_cons_zero] at c0
      clear r e1 hb hbf hff

      go_wp2_with fail
      refine (areWords1_any _ _).mono ?_
      rintro e w2 ⟨rfl, b2⟩
      have HB2 := Lib.hid (HB.out.trans (b2.mono HB.out.size))
      clear b2 c0
      cases hq : notWord l[k]
      · have HQ := Lib.hid hq
        clear hq
        go_wp2
        go_roundw
        case rel => exact ⟨k + 1, by omega, by go_num, fun j h hj => (by
          by_cases e : j = k
          · subst e; exact HQ.out
          · exact HP.out j h (by omega)), HB2.out⟩
        case measure => simp [intOf]; omega
      · have HQ := Lib.hid hq
        clear hq
        go_wp2
        go_ret
        exact ⟨ret_int (idxOf_hit i1 HQ.out (fun j h hj => HP.out j h hj)).symm, HB2.out⟩
    · clear r hb
      go_wp2
      go_ret
      exact ⟨ret_int (idxOf_none (fun j h => HP.out j h (by rw [hn.out] at h; omega))).symm, HB.out⟩

theorem containsWords  (v : Value) (l : List Int) (fp : List Nat) (w : World)  (g : SlR 1 intR w l v fp) :
    Calls Tryd.prog 45 #[v, .func (.func 50) #[] #[]] w fun e w' => e = .returned (.bool (l.any notWord)) ∧ Below w.heap.size w w' := by
  go_enter Tryd.func45, Tryd.ntmps45
  go_wp2_with fail
  refine (indexWords  v l fp _  g).mono ?_
  rintro e w' ⟨rfl, hb⟩
  have HB := Lib.hid hb
  clear hb
  cases hq : decide (0 ≤ idxOf notWord l)
  all_goals
    go_wp2
    go_ret
    exact ⟨ret_bool (by rw [← idxOf_any, hq]), HB.out⟩


/-- all are words -/
def wordsB (l : List Int) : Bool := !l.any notWord

theorem areWords_any (v : Value) (l : List Int) (fp : List Nat) (w : World) (g : IntS w l v fp) :
    Calls Tryd.prog 40 #[v] w fun e w' => e = .returned (.bool (wordsB l)) ∧ Below w.heap.size w w' := by
  have G := Lib.hid g
  clear g
  go_enter Tryd.func40, Tryd.ntmps40
  go_wp2_with fail
  refine (containsWords v l fp _ G.out).mono ?_
  rintro e w' ⟨rfl, hb⟩
  have HB := Lib.hid hb
  clear hb
  cases hq : l.any notWord
  all_goals
    go_wp2
    go_ret
    exact ⟨ret_bool (by unfold wordsB; rw [hq]; rfl), HB.out⟩

end Go.Proofs.YtaeiddoccfaheaaDoor
