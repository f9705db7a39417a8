/-
 Texts of this claim laid together: Adr Map.
-/
import Derived.Test.YtaeiddoccfaheaaGreatProg
import Derived.Test.YtaeiddoccfaheaaGreatPk04
import Derived.Deep.QuietTactic
import Derived.BigQuiet
import Derived.WalkSmall
set_option linter.unusedVariables false
set_option linter.unusedSimpArgs false
namespace Go.Proofs.YtaeiddoccfaheaaGreat
open Go.RowKit
theorem l1In_any (a b c : Int) (w : World) :
 Calls Tryz.prog 25 #[.int .i64 a, .int .i64 b, .int .i64 c] w fun e w' => e = .returned (.bool (inB a b c)) ∧ w = w' := by
 go_enter Tryz.func25, Tryz.ntmps25
 go_wp2
 all_goals go_ret
 all_goals refine ⟨ret_bool ?_, rfl⟩
 all_goals (simp [inB]; try omega)
theorem in_any (a b c : Int) (w : World) :
 Calls Tryz.prog 62 #[.int .i64 a, .int .i64 b, .int .i64 c] w fun e w' => e = .returned (.bool (inB a b c)) ∧ w = w' := by
 go_enter Tryz.func62, Tryz.ntmps62
 go_wp2
 all_goals go_ret
 all_goals refine ⟨ret_bool ?_, rfl⟩
 all_goals (simp [inB]; try omega)
theorem sAdrOk_any (a m : Int) (wr : Bool) (w : World) :
 Calls Tryz.prog 82 #[.int .i64 a, .int .i64 m, .bool wr] w fun e w' => e = .returned (.bool (adrOk a m wr)) ∧ w = w' := by
 by_cases h1 : m = 1
 case' neg => by_cases h2 : m = 2
 case' neg => by_cases h4 : m = 4
 all_goals try subst m
 all_goals
  go_enter Tryz.func82, Tryz.ntmps82
  go_wp2
  all_goals go_ret
  all_goals refine ⟨ret_bool ?_, rfl⟩
  all_goals (first | (cases wr <;> simp_all [adrOk] <;> omega) | (cases wr <;> simp_all [adrOk]))
theorem iAdrOk_any (a m : Int) (wr : Bool) (w : World) :
 Calls Tryz.prog 96 #[.int .i64 a, .int .i64 m, .bool wr] w fun e w' => e = .returned (.bool (adrOk a m wr)) ∧ w = w' := by
 by_cases h1 : m = 1
 case' neg => by_cases h2 : m = 2
 case' neg => by_cases h4 : m = 4
 all_goals try subst m
 all_goals
  go_enter Tryz.func96, Tryz.ntmps96
  go_wp2
  all_goals go_ret
  all_goals refine ⟨ret_bool ?_, rfl⟩
  all_goals (first | (cases wr <;> simp_all [adrOk] <;> omega) | (cases wr <;> simp_all [adrOk]))
end Go.Proofs.YtaeiddoccfaheaaGreat
namespace Go.Proofs.YtaeiddoccfaheaaGreat
open Go.RowKit
structure MR where
 fr : Int
 to : Int
 sl : Int
 only : Bool
 deriving DecidableEq
def mrR : Pr MR := fun _ x cs fp => cs = [.int .i64 x.fr, .int .i64 x.to, .int .i64 x.sl, .bool x.only] ∧ fp = []
theorem mrR_fits : Fits 4 mrR := ⟨fun h => by rw [h.1]; rfl, fun h b hb => by rw [h.2] at hb; simp at hb, fun h _ _ => h⟩
def isIn (addr : Int) (r : MR) : Bool := inB addr r.fr r.to
theorem rangeOf1_any (cb : Nat) (addr : Int) (x : MR) (w : World) (hc : w.cell? ⟨cb, 0, none⟩ = some (.int .i64 addr)) :
 Calls Tryz.prog 111 #[.agg #[.int .i64 x.fr, .int .i64 x.to, .int .i64 x.sl, .bool x.only], .pointer (some ⟨cb, 0, none⟩)] w fun e w' => e = .returned (.bool (isIn addr x)) ∧ Below w.heap.size w w' := by
 have hlt : cb < w.heap.size := block_of_cell hc
 go_enter Tryz.func111, Tryz.ntmps111
 go_wp2_with (go_at_call 62; refine (in_any _ _ _ _).mono ?_; rintro e w' ⟨rfl, rfl⟩)
 go_ret
 exact ⟨rfl, below_alloc _ _⟩
theorem indexRange (cb : Nat) (addr : Int) (v : Value) (l : List MR) (fp : List Nat) (w : World) (hcap0 : w.cell? ⟨cb, 0, none⟩ = some (.int .i64 addr)) (g : SlR 4 mrR w l v fp) :
 Calls Tryz.prog 106 #[v, .func (.func 111) #[] #[.pointer (some ⟨cb, 0, none⟩)]] w fun e w' => e = .returned (.int .i64 (idxOf (isIn addr) l)) ∧ Below w.heap.size w w' := by
 obtain ⟨a, n, c, rfl, hn, hcap, hmax, hcm, r⟩ := g.opened
 have G := Lib.hid g
 clear g
 go_enter Tryz.func106, Tryz.ntmps106
 go_wp2_with fail
 go_loopw [8] (fun i wr => ∃ k : Nat, k <= n ∧ i = .int .i64 k ∧ (∀ j (h : j < l.length), j < k -> (isIn addr) l[j] = false) ∧ Below w.heap.size w wr) (fun i _ => n - (intOf i).toNat)
 case atStart => exact ⟨0, Nat.zero_le _, rfl, fun j _ h => absurd h (Nat.not_lt_zero j), Below.refl _ _⟩
 case round =>
  obtain ⟨k, hk, rfl, hp, hb⟩ := hrel
  have HP := Lib.hid hp
  have HB := Lib.hid hb
  clear hp
  by_cases hlt : k < n
  · obtain ⟨i1, b1, o1, f1, cs, rfl, hb1, hbf, hff, hR, e1⟩ := r k hlt
    have HR := Lib.hid hR
    obtain ⟨rfl, rfl⟩ := hR
    have c0 := (hb.cell (p := ⟨b1, o1 + k * 4 + 0, none⟩) hb1).trans (e1 0 (by simp))
    have c1 := (hb.cell (p := ⟨b1, o1 + k * 4 + 1, none⟩) hb1).trans (e1 1 (by simp))
    have c2 := (hb.cell (p := ⟨b1, o1 + k * 4 + 2, none⟩) hb1).trans (e1 2 (by simp))
    have c3 := (hb.cell (p := ⟨b1, o1 + k * 4 + 3, none⟩) hb1).trans (e1 3 (by simp))
    simp only [Nat.add_zero, List.getElem_cons_zero, List.getElem_cons_succ] at c0 c1 c2 c3
    clear r e1 hb hbf hff
    have hcap1 := keep_cell HB.out hcap0
    go_wp2_with fail
    refine (rangeOf1_any cb addr l[k] _ hcap1).mono ?_
    rintro e w2 ⟨rfl, b2⟩
    have HB2 := Lib.hid (HB.out.trans (b2.mono HB.out.size))
    clear b2 c0 c1 c2 c3
    cases hq : (isIn addr) l[k]
    · have HQ := Lib.hid hq
      clear hq
      go_wp2
      go_roundw
      case rel => exact ⟨k + 1, by omega, by go_num, fun j h hj => (by
       by_cases e : j = k
       · subst e; exact HQ.out
       · exact HP.out j h (by omega)), HB2.out⟩
      case measure => simp [intOf]; omega
    · have HQ := Lib.hid hq
      clear hq
      go_wp2
      go_ret
      exact ⟨ret_int (idxOf_hit i1 HQ.out (fun j h hj => HP.out j h hj)).symm, HB2.out⟩
  · clear r hb
    go_wp2
    go_ret
    exact ⟨ret_int (idxOf_none (fun j h => HP.out j h (by rw [hn.out] at h; omega))).symm, HB.out⟩
theorem rangeOf_any (v : Value) (l : List MR) (fp : List Nat) (addr : Int) (w : World) (g : SlR 4 mrR w l v fp) :
 Calls Tryz.prog 100 #[v, .int .i64 addr] w fun e w' => e = .returned (.int .i64 (idxOf (isIn addr) l)) ∧ Below w.heap.size w w' := by
 have hb := below_alloc w (.cells #[.int .i64 addr] 3)
 have G := Lib.hid (SlR.below mrR_fits g hb)
 have HB := Lib.hid hb
 clear g hb
 go_enter Tryz.func100, Tryz.ntmps100
 go_wp2_with fail
 refine (indexRange w.heap.size addr v l fp _ (alloc_new _ _ _) G.out).mono ?_
 rintro e w' ⟨rfl, b⟩
 have HB2 := Lib.hid (HB.out.trans (b.mono HB.out.size))
 clear b
 go_wp2
 go_ret
 exact ⟨rfl, HB2.out⟩
theorem l1In_q (a b c : Int) (w : World) :
 Calls Tryz.prog 25 #[.int .i64 a, .int .i64 b, .int .i64 c] w fun e w' => e = .returned (.bool (inB a b c)) ∧ w' = w :=
 (l1In_any a b c w).mono fun _ _ h => ⟨h.1, h.2.symm⟩
theorem l1Find_any (v : Value) (l : List MR) (fp : List Nat) (addr : Int) (w : World) (g : SlR 4 mrR w l v fp) :
 Calls Tryz.prog 104 #[v, .int .i64 addr] w fun e w' => e = .returned (.int .i64 (idxOf (isIn addr) l)) ∧ ∃ m, w' = w.drewN m := by
 obtain ⟨a, n, c, rfl, hn, hcap, hmax, hcm, r⟩ := g.opened
 clear g
 go_enter Tryz.func104, Tryz.ntmps104
 go_wp2_with fail
 go_loopw [5] (fun i wr => ∃ k : Nat, k <= n ∧ i = .int .i64 k ∧ (∀ j (h : j < l.length), j < k -> isIn addr l[j] = false) ∧ ∃ m, wr = w.drewN m) (fun i _ => n - (intOf i).toNat)
 case atStart => exact ⟨0, Nat.zero_le _, rfl, fun j _ h => absurd h (Nat.not_lt_zero j), 0, rfl⟩
 case round =>
  obtain ⟨k, hk, rfl, hp, m, hm⟩ := hrel
  have HP := Lib.hid hp
  have HM := Lib.hid hm
  clear hp hm
  by_cases hlt : k < n
  · obtain ⟨i1, b1, o1, f1, cs, rfl, hb1, hbf, hff, ⟨rfl, rfl⟩, e1⟩ := r k hlt
    have c0 : wr.cell? _ = _ := (congrArg (fun z => World.cell? z _) HM.out).trans (e1 0 (by simp))
    have c1 : wr.cell? _ = _ := (congrArg (fun z => World.cell? z _) HM.out).trans (e1 1 (by simp))
    simp only [Nat.add_zero, List.getElem_cons_zero, List.getElem_cons_succ] at c0 c1
    clear r e1 hbf hff
    go_wp2_with fail
    go_quiet ((go_at_call 25; exact Calls.quiet_of_same (l1In_q _ _ _ _)))
    cases hq : inB addr l[k].fr l[k].to
    · have HQ := Lib.hid (show isIn addr l[k] = false from hq)
      clear hq
      go_wp2
      go_roundw
      case rel => exact ⟨k + 1, by omega, by go_num, fun j h hj => (by
       by_cases e : j = k
       · subst e; exact HQ.out
       · exact HP.out j h (by omega)), ⟨_, by rw [HM.out, World.drewN_drewN]⟩⟩
      case measure => simp [intOf]; omega
    · have HQ := Lib.hid (show isIn addr l[k] = true from hq)
      clear hq
      go_wp2
      go_ret
      exact ⟨ret_int (idxOf_hit i1 HQ.out (fun j h hj => HP.out j h hj)).symm, ⟨_, by rw [HM.out, World.drewN_drewN]⟩⟩
  · clear r
    go_wp2
    go_ret
    exact ⟨ret_int (idxOf_none (fun j h => HP.out j h (by rw [hn.out] at h; omega))).symm, m, HM.out⟩
theorem idxOf_at {α : Type} {p : α -> Bool} {l : List α} {k : Nat} (h : idxOf p l = k) : ∃ hk : k < l.length, p l[k] = true ∧ ∀ j (hj : j < l.length), j < k -> p l[j] = false := by
 unfold idxOf at h
 cases e : l.findIdx? p with
 | none => rw [e] at h; simp at h
 | some i =>
  rw [e] at h
  simp only at h
  have hik : i = k := by omega
  subst hik
  rw [List.findIdx?_eq_some_iff_getElem] at e
  obtain ⟨h1, h2, h3⟩ := e
  exact ⟨h1, h2, fun j hj hjk => by have := h3 j hjk; simpa using this⟩
theorem idxOf_lo {α : Type} (p : α -> Bool) (l : List α) : -1 <= idxOf p l := by
 unfold idxOf
 split <;> omega
end Go.Proofs.YtaeiddoccfaheaaGreat
