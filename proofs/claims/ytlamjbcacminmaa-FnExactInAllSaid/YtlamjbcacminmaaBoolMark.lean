/-
  Bools, in the one form: eq.., mark.., held..
-/
import Derived.Test.YtlamjbcacminmaaProg
import Derived.Test.YtlamjbcacminmaaBase
import Derived.Test.YtlamjbcacminmaaBools
import Derived.Test.YtlamjbcacminmaaRow
import Derived.WalkSmall
namespace Go.Proofs.Ytlamjbcacminmaa
set_option linter.unusedVariables false
set_option linter.unusedSimpArgs false
open Go.RowKit

def sm_bools (l : List Bool) : Prop := l.length ≤ 1048576

theorem eq_bools (v u : Value) (x y : List Bool) (fp fq : List Nat) (w : World) (g : SlR 1 boolR w x v fp) (k : SlR 1 boolR w y u fq) :
    Calls Try.prog 75 #[v, u] w fun e w' => e = .returned (.bool (decide (x = y))) ∧ Below w.heap.size w w' :=
  (eqBoolS_any v u x y fp fq w g k).mono fun _ _ ⟨he, n, hw⟩ => ⟨he, by subst hw; exact below_drewN (Below.refl _ _) n⟩

def cnt_bools (l : List Bool) : Int := (l.length : Int)
theorem cnt_bools_in {l : List Bool} (h : sm_bools l) : 0 ≤ cnt_bools l ∧ cnt_bools l ≤ 1048576 := by unfold cnt_bools; unfold sm_bools at h; omega
/-- the marks -/
def bmarks (k : Int) (n : Nat) : List Bool := (List.range n).map fun (i : Nat) => ((k + (i : Int)) % 3 == 0)
theorem bmarks_len (k : Int) (n : Nat) : (bmarks k n).length = n := by simp [bmarks]
theorem bmarks_at (k : Int) (n i : Nat) (h : i < n) (h' : i < (bmarks k n).length) : (bmarks k n)[i] = ((k + (i : Int)) % 3 == 0) := by simp [bmarks]
def bmixed (l : List Bool) (k : Int) (i : Nat) : List Bool := bmarks k i ++ l.drop i
theorem bmixed_zero (l : List Bool) (k : Int) : bmixed l k 0 = l := by simp [bmixed, bmarks]
theorem bmixed_all (l : List Bool) (k : Int) (i : Nat) (h : l.length = i) : bmixed l k i = bmarks k l.length := by simp [bmixed, h]
theorem bmixed_set (l : List Bool) (k : Int) (i : Nat) (h : i < l.length) : (bmixed l k i).set i ((k + (i : Int)) % 3 == 0) = bmixed l k (i + 1) := by
  unfold bmixed
  rw [List.set_append_right _ _ (by simp [bmarks]), List.drop_eq_getElem_cons h, bmarks_len, Nat.sub_self, List.set_cons_zero]
  unfold bmarks
  rw [List.range_succ, List.map_append, List.append_assoc]
  rfl
def mk_bools (k : Int) (l : List Bool) : List Bool := bmarks k l.length

def boolC (x : Bool) : List Value := [.bool x]
theorem boolC_len (x : Bool) : (boolC x).length = 1 := rfl

theorem mark_bools (v : Value) (l : List Bool) (fp : List Nat) (k : Int) (h0 : 0 ≤ k) (h1 : k ≤ 1152921504606846976) (hs : sm_bools l) (w : World) (g : SlR 1 boolR w l v fp) (f : Free fp w) :
    Calls Try.prog 76 #[v, .int .i64 k] w fun e w' => e = .returned (.int .i64 (k + cnt_bools l)) ∧ SlR 1 boolR w' (mk_bools k l) v fp ∧ Chg fp w w' ∧ Free fp w' := by
  obtain ⟨a, n, cap, rfl, hn, hcap, hmax, hcm, r⟩ := g.opened
  have hns : n ≤ 1048576 := by rw [← hn.out]; exact hs
  have G := Lib.hid g
  have F := Lib.hid f
  clear r g f hs
  go_enter Try.func76, Try.ntmps76
  go_wp2
  go_loopw [1, 5] (fun q i wr => ∃ j : Nat, j ≤ n ∧ i = .int .i64 j ∧ q = .int .i64 (k + j) ∧ SlR 1 boolR wr (bmixed l k j) (.slice a n cap) fp ∧ Chg fp w wr ∧ Free fp wr) (fun _ i _ => n - (intOf i).toNat)
  case atStart => exact ⟨0, Nat.zero_le _, rfl, by simp, by rw [bmixed_zero]; exact G.out, Chg.refl _ _, F.out⟩
  case round =>
    obtain ⟨j, hj, rfl, rfl, gi, hc, hf⟩ := hrel
    have GI := Lib.hid gi
    have HC := Lib.hid hc
    have HF := Lib.hid hf
    by_cases hlt : j < n
    · obtain ⟨a', n', cap', e, hn', _, _, _, r⟩ := gi.opened
      simp only [Value.slice.injEq] at e
      obtain ⟨rfl, rfl, rfl⟩ := e
      obtain ⟨i1, b1, o1, f1, cs, rfl, hb1, hbm, _, ⟨rfl, rfl⟩, e1⟩ := r j hlt
      obtain ⟨x, c0⟩ : ∃ x, wr.cell? ⟨b1, o1 + j * 1 + 0, none⟩ = some x := ⟨_, e1 0 (by simp)⟩
      have d0 := hf b1 hbm (o1 + j * 1 + 0)
      simp only [Nat.mul_one, Nat.add_zero] at c0 d0
      have hin : j < l.length := by rw [hn.out]; exact hlt
      clear r gi hc hf hbm e1
      go_wp2
      go_roundw
      case rel =>
        obtain ⟨t1, t2, t3⟩ := SlR.put boolC_len GI.out rfl hlt ((k + (j : Int)) % 3 == 0)
        rw [bmixed_set l k j hin] at t1
        simp only [Nat.mul_one] at t1 t2
        refine ⟨j + 1, by omega, by go_num, by go_num, ?_, ?_, ?_⟩
        · first | exact t1 | trace_state; exact t1
        · exact HC.out.trans' t2
        · exact HF.out.setCell _ _
      case measure => simp [intOf]; omega
    · clear gi hc hf
      obtain rfl : j = n := by omega
      go_wp2
      go_ret
      exact ⟨ret_int (by unfold cnt_bools; rw [hn.out]), by unfold mk_bools; rw [← bmixed_all l k j hn.out]; exact GI.out, HC.out, HF.out⟩

theorem held_bools (v : Value) (l : List Bool) (fp : List Nat) (k : Int) (h0 : 0 ≤ k) (h1 : k ≤ 1152921504606846976) (hs : sm_bools l) (w : World) (g : SlR 1 boolR w (mk_bools k l) v fp) :
    Calls Try.prog 77 #[v, .int .i64 k] w fun e w' => e = .returned (.int .i64 (k + cnt_bools l)) ∧ Below w.heap.size w w' := by
  obtain ⟨a, n, cap, rfl, hn, hcap, hmax, hcm, r⟩ := g.opened
  have hnl : l.length = n := by rw [← hn.out]; exact (bmarks_len ..).symm
  have hns : n ≤ 1048576 := by rw [← hnl]; exact hs
  have HN := Lib.hid hnl
  clear g hs hnl hn
  go_enter Try.func77, Try.ntmps77
  go_wp2
  go_loop [1, 5] (fun q i => ∃ j : Nat, j ≤ n ∧ i = .int .i64 j ∧ q = .int .i64 (k + j)) (fun _ i => n - (intOf i).toNat)
  case atStart => exact ⟨0, Nat.zero_le _, rfl, by simp⟩
  case round =>
    obtain ⟨j, hj, rfl, rfl⟩ := hrel
    by_cases hlt : j < n
    · obtain ⟨i1, b1, o1, f1, cs, rfl, hb1, hbm, _, ⟨rfl, rfl⟩, e1⟩ := r j hlt
      have c0 : w.cell? ⟨b1, o1 + j * 1 + 0, none⟩ = some (.bool ((k + (j : Int)) % 3 == 0)) := (e1 0 (by simp)).trans (by simp only [List.getElem_cons_zero]; rw [show (mk_bools k l)[j] = ((k + (j : Int)) % 3 == 0) from bmarks_at k _ j (by rw [HN.out]; exact hlt) i1])
      simp only [Nat.mul_one, Nat.add_zero] at c0
      clear r hbm e1
      cases hb : ((k + (j : Int)) % 3 == 0)
      all_goals
        rw [hb] at c0
        go_wp2
        go_round
        case rel => exact ⟨j + 1, by omega, by go_num, by go_num⟩
        case measure => simp [intOf]; omega
    · clear r
      obtain rfl : j = n := by omega
      go_wp2
      go_ret
      exact ⟨ret_int (by unfold cnt_bools; rw [HN.out]), Below.refl _ _⟩

end Go.Proofs.Ytlamjbcacminmaa
