/-
  A store, in the one form: sz.., eq.., to.., mark.., held...
-/
import Derived.Test.YtmmojgopeaelcaaUni
import Derived.Test.YtmmojgopeaelcaaMemIn
namespace Go.Proofs.Ytmmojgopeaelcaa
set_option linter.unusedVariables false
set_option linter.unusedSimpArgs false
open Go.RowKit

def mk_ints (k : Int) (l : List Int) : List Int := marks k l.length

def cnt_ints (l : List Int) : Int := (l.length : Int)

theorem cnt_ints_in {l : List Int} (h : sm_ints l) : 0 ≤ cnt_ints l ∧ cnt_ints l ≤ 1048576 := by unfold cnt_ints; unfold sm_ints at h; omega

theorem mark_ints (v : Value) (l : List Int) (fp : List Nat) (k : Int) (h0 : 0 ≤ k) (h1 : k ≤ 1152921504606846976) (hs : sm_ints l) (w : World) (g : SlR 1 intR w l v fp) (f : Free fp w) :
    Calls Try.prog 92 #[v, .int .i64 k] w fun e w' => e = .returned (.int .i64 (k + cnt_ints l)) ∧ SlR 1 intR w' (mk_ints k l) v fp ∧ Chg fp w w' ∧ Free fp w' := markIntS_any v l fp k h0 h1 hs w g f

theorem held_ints (v : Value) (l : List Int) (fp : List Nat) (k : Int) (h0 : 0 ≤ k) (h1 : k ≤ 1152921504606846976) (hs : sm_ints l) (w : World) (g : SlR 1 intR w (mk_ints k l) v fp) :
    Calls Try.prog 93 #[v, .int .i64 k] w fun e w' => e = .returned (.int .i64 (k + cnt_ints l)) ∧ Below w.heap.size w w' :=
  (heldIntS_any v _ fp k h0 h1 (by rw [show (mk_ints k l).length = l.length from marks_len ..]; exact hs) w g).mono fun _ _ ⟨he, hw⟩ => by
    subst hw
    exact ⟨by rw [he]; unfold mk_ints; rw [heldR_marks]; rfl, Below.refl _ _⟩

def sm_Mem (x : List Int) : Prop := sm_ints x

def mk_Mem (k : Int) (x : List Int) : List Int := mk_ints k x

def cnt_Mem (x : List Int) : Int := cnt_ints x

theorem cnt_Mem_in {x : List Int} (h : sm_Mem x) : 0 ≤ cnt_Mem x ∧ cnt_Mem x ≤ 1048576 := cnt_ints_in h

theorem opens_Mem : Opens Try.prog 58 memR := opens_mem

theorem sz_Mem (x : List Int) (v : Value) (fp : List Nat) (left : Int) (h0 : 0 ≤ left) (h1 : left ≤ 1048576) (w : World) (g : SlR 1 intR w x v fp) :
    Calls Try.prog 156 #[.agg #[v], .int .i64 left] w (SzP left (sm_Mem x) w) :=
  (szMem_any x v fp left h0 h1 w g).mono fun _ _ ⟨he, hb⟩ => SzP.exact h0 h1 he id hb

theorem eq_Mem (x y : List Int) (v1 v2 : Value) (fp1 fp2 : List Nat) (w : World) (g1 : SlR 1 intR w x v1 fp1) (g2 : SlR 1 intR w y v2 fp2) :
    Calls Try.prog 162 #[.agg #[v1], .agg #[v2]] w fun e w' => e = .returned (.bool (decide (x = y))) ∧ Below w.heap.size w w' := eqMem_any2 x y v1 v2 fp1 fp2 w g1 g2

theorem to_Mem (x : List Int) (v : Value) (fp : List Nat) (hs : sm_Mem x) (w : World) (g : SlR 1 intR w x v fp) :
    Calls Try.prog 158 #[.agg #[v]] w fun e w' => ∃ v' fp', e = .returned (.agg #[v']) ∧ SlR 1 intR w' x v' fp' ∧ New fp' w w' ∧ Below w.heap.size w w' := toMem_any x v fp hs w g

end Go.Proofs.Ytmmojgopeaelcaa
