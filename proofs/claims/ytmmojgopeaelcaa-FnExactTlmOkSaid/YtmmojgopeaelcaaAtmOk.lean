/-
  Whether a store, and what is held, are ok: AtmOk (both).
-/
import Derived.Test.YtmmojgopeaelcaaProg
import Derived.Test.YtmmojgopeaelcaaBase
import Derived.Test.YtmmojgopeaelcaaAdr
import Derived.Test.YtmmojgopeaelcaaIdx
import Derived.Test.YtmmojgopeaelcaaOk
import Derived.Test.YtmmojgopeaelcaaAtm
import Derived.WalkSmall
namespace Go.Proofs.Ytmmojgopeaelcaa
set_option linter.unusedVariables false
set_option linter.unusedSimpArgs false
open Go.RowKit

/-- a store, and what is held, are ok -/
def atmOk (x : Atm) : Bool := memOk x.mem && (decide (x.holds.length = 6) && allIn x.holds (-1) 63)

def noHold (n : Int) : Bool := !inB n (-1) 63
theorem noHold_any (n : Int) (w : World) : Calls Try.prog 125 #[.int .i64 n] w fun e w' => e = .returned (.bool (noHold n)) ∧ Below w.heap.size w w' := by
  go_enter Try.func125, Try.ntmps125
  go_wp2_with fail
  refine (in_any _ _ _ _).mono ?_
  rintro e w' ⟨rfl, rfl⟩
  go_wp2
  go_ret
  exact ⟨rfl, Below.refl _ _⟩

theorem indexHold  (v : Value) (l : List Int) (fp : List Nat) (w : World)  (g : SlR 1 intR w l v fp) :
    Calls Try.prog 169 #[v, .func (.func 125) #[] #[]] w fun e w' => e = .returned (.int .i64 (idxOf noHold l)) ∧ Below w.heap.size w w' := by
  obtain ⟨a, n, c, rfl, hn, hcap, hmax, hcm, r⟩ := g.opened
  have G := Lib.hid g
  clear g
  go_enter Try.func169, Try.ntmps169
  go_wp2_with fail
  go_loopw [8] (fun i wr => ∃ k : Nat, k ≤ n ∧ i = .int .i64 k ∧ (∀ j (h : j < l.length), j < k → noHold l[j] = false) ∧ Below w.heap.size w wr) (fun i _ => n - (intOf i).toNat)
  case atStart => exact ⟨0, Nat.zero_le _, rfl, fun j _ h => absurd h (Nat.not_lt_zero j), Below.refl _ _⟩
  case round =>
    obtain ⟨k, hk, rfl, hp, hb⟩ := hrel
    have HP := Lib.hid hp
    have HB := Lib.hid hb
    clear hp
    by_cases hlt : k < n
    · obtain ⟨i1, b1, o1, f1, cs, rfl, hb1, hbf, hff, hR, e1⟩ := r k hlt
      have HR := Lib.hid hR
      obtain ⟨rfl, rfl⟩ := hR
      have c0 := (hb.cell (p := ⟨b1, o1 + k * 1 + 0, none⟩) hb1).trans (e1 0 (by simp))
      simp only [Nat.mul_one, Nat.add_zero, List.getElem_cons_zero] at c0
      clear r e1 hb hbf hff

      go_wp2_with fail
      refine (noHold_any l[k] _).mono ?_
      rintro e w2 ⟨rfl, b2⟩
      have HB2 := Lib.hid (HB.out.trans (b2.mono HB.out.size))
      clear b2 c0
      cases hq : noHold l[k]
      · have HQ := Lib.hid hq
        clear hq
        go_wp2
        go_roundw
        case rel => exact ⟨k + 1, by omega, by go_num, fun j h hj => (by
          by_cases e : j = k
          · subst e; exact HQ.out
          · exact HP.out j h (by omega)), HB2.out⟩
        case measure => simp [intOf]; omega
      · have HQ := Lib.hid hq
        clear hq
        go_wp2
        go_ret
        exact ⟨ret_int (idxOf_hit i1 HQ.out (fun j h hj => HP.out j h hj)).symm, HB2.out⟩
    · clear r hb
      go_wp2
      go_ret
      exact ⟨ret_int (idxOf_none (fun j h => HP.out j h (by rw [hn.out] at h; omega))).symm, HB.out⟩

theorem containsHold  (v : Value) (l : List Int) (fp : List Nat) (w : World)  (g : SlR 1 intR w l v fp) :
    Calls Try.prog 120 #[v, .func (.func 125) #[] #[]] w fun e w' => e = .returned (.bool (l.any noHold)) ∧ Below w.heap.size w w' := by
  go_enter Try.func120, Try.ntmps120
  go_wp2_with fail
  refine (indexHold  v l fp _  g).mono ?_
  rintro e w' ⟨rfl, hb⟩
  have HB := Lib.hid hb
  clear hb
  cases hq : decide (0 ≤ idxOf noHold l)
  all_goals
    go_wp2
    go_ret
    exact ⟨ret_bool (by rw [← idxOf_any, hq]), HB.out⟩


theorem holds_eq (l : List Int) : l.any noHold = !allIn l (-1) 63 := by
  unfold allIn
  rw [List.all_eq_not_any_not]
  simp only [Bool.not_not]
  rfl

theorem sAtmOk_any (x : Atm) (v0 v1 : Value) (fp0 fp1 : List Nat) (w : World) (g0 : SlR 1 intR w x.mem v0 fp0) (g1 : SlR 1 intR w x.holds v1 fp1) :
    Calls Try.prog 59 #[.agg #[v0, v1]] w fun e w' => e = .returned (.bool (atmOk x)) ∧ Below w.heap.size w w' := by
  have hb := below_alloc w (.cells #[v0, v1] 67)
  have G0 := Lib.hid (SlR.below intR_fits g0 hb)
  have G1 := Lib.hid (SlR.below intR_fits g1 hb)
  have B := Lib.hid hb
  obtain ⟨a1, n1, c1, rfl, hn1, _, _, _, _⟩ := g1.opened
  have HN := Lib.hid (show decide (x.holds.length = 6) = ((n1 : Int) == 6) by rw [hn1.out, Bool.eq_iff_iff]; simp; omega)
  clear hb g0 g1 hn1
  cases q0 : memOk x.mem
  all_goals cases q1 : ((n1 : Int) == 6)
  all_goals
    have Q0 := Lib.hid q0
    have Q1 := Lib.hid q1
    clear q0
    go_enter Try.func59, Try.ntmps59
    go_wp2_with (first
      | (go_at_call 47; refine (sMemOk_any _ x.mem fp0 _ G0.out).mono ?_; rw [Q0.out]; rintro e w2 ⟨rfl, b⟩; replace G1 := Lib.hid (SlR.below intR_fits G1.out b); have X1 := keep_cell b (alloc1_new w _ _ 1 rfl); replace B := Lib.hid (B.out.trans (b.mono B.out.size)); clear b)
      | (go_at_call 112; refine (l3All_any _ x.holds fp1 _ _ _ G1.out).mono ?_; rintro e w2 ⟨rfl, rfl⟩))
    all_goals go_ret
    all_goals refine ⟨ret_bool ?_, B.out⟩
    all_goals unfold atmOk
    all_goals rw [HN.out, Q0.out, Q1.out]
    all_goals (simp; done)

theorem iAtmOk_any (x : Atm) (v0 v1 : Value) (fp0 fp1 : List Nat) (w : World) (g0 : SlR 1 intR w x.mem v0 fp0) (g1 : SlR 1 intR w x.holds v1 fp1) :
    Calls Try.prog 58 #[.agg #[v0, v1]] w fun e w' => e = .returned (.bool (atmOk x)) ∧ Below w.heap.size w w' := by
  have hb := below_alloc w (.cells #[v0, v1] 67)
  have G0 := Lib.hid (SlR.below intR_fits g0 hb)
  have G1 := Lib.hid (SlR.below intR_fits g1 hb)
  have B := Lib.hid hb
  obtain ⟨a1, n1, c1, rfl, hn1, _, _, _, _⟩ := g1.opened
  have HN := Lib.hid (show decide (x.holds.length = 6) = ((n1 : Int) == 6) by rw [hn1.out, Bool.eq_iff_iff]; simp; omega)
  clear hb g0 g1 hn1
  cases q0 : memOk x.mem
  all_goals cases q1 : ((n1 : Int) == 6)
  all_goals cases q2 : allIn x.holds (-1) 63
  all_goals
    have Q0 := Lib.hid q0
    have Q1 := Lib.hid q1
    have Q2 := Lib.hid q2
    clear q0 q2
    go_enter Try.func58, Try.ntmps58
    go_wp2_with (first
      | (go_at_call 45; refine (iMemOk_any _ x.mem fp0 _ G0.out).mono ?_; rw [Q0.out]; rintro e w2 ⟨rfl, b⟩; replace G1 := Lib.hid (SlR.below intR_fits G1.out b); have X1 := keep_cell b (alloc1_new w _ _ 1 rfl); replace B := Lib.hid (B.out.trans (b.mono B.out.size)); clear b)
      | (go_at_call 120; refine (containsHold _ x.holds fp1 _ G1.out).mono ?_; rw [holds_eq, Q2.out]; rintro e w2 ⟨rfl, b⟩; replace B := Lib.hid (B.out.trans (b.mono B.out.size)); clear b))
    all_goals go_ret
    all_goals refine ⟨ret_bool ?_, B.out⟩
    all_goals unfold atmOk
    all_goals rw [HN.out, Q0.out, Q1.out, Q2.out]
    all_goals rfl

end Go.Proofs.Ytmmojgopeaelcaa
