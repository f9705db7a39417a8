/-
 Texts of this claim laid together: MapEq UniMap.
-/
import Derived.Test.YtaeiddoccfaheaaGreatPk20
import Derived.Deep.QuietTactic
import Derived.BigQuiet
import Derived.OwnWalk
import Derived.StillTailTactics
import Derived.WalkSmall
import Derived.KernelRfl
import Derived.Test.YtaeiddoccfaheaaGreatPk09
set_option linter.unusedVariables false
set_option linter.unusedSimpArgs false
namespace Go.Proofs.YtaeiddoccfaheaaGreat
open Go.RowKit
set_option maxRecDepth 100000 in
theorem eqMrS_any (v1 v2 : Value) (l1 l2 : List MR) (fp1 fp2 : List Nat) (w : World) (g1 : SlR 4 mrR w l1 v1 fp1) (g2 : SlR 4 mrR w l2 v2 fp2) :
 Calls Tryz.prog 39 #[v1, v2] w fun e w' => e = .returned (.bool (decide (l1 = l2))) ∧ Below w.heap.size w w' := by
 obtain ⟨a1, n1, c1, rfl, hn1, k1, m1, _, r1⟩ := g1.opened
 obtain ⟨a2, n2, c2, rfl, hn2, k2, m2, _, r2⟩ := g2.opened
 clear g1 g2
 by_cases hL : n2 = n1
 · obtain rfl := hL
   go_enter Tryz.func39, Tryz.ntmps39
   go_wp2
   go_loopw [5] (fun i wr => ∃ k : Nat, k <= n2 ∧ i = .int .i64 k ∧ l1.take k = l2.take k ∧ Below w.heap.size w wr) (fun i _ => n2 - (intOf i).toNat)
   case atStart => exact ⟨0, Nat.zero_le _, rfl, rfl, Below.refl _ _⟩
   case round =>
    obtain ⟨k, hk, rfl, ht, hb⟩ := hrel
    have HT := Lib.hid ht
    have HB := Lib.hid hb
    clear ht
    by_cases hlt : k < n2
    · obtain ⟨i1, b1, o1, f1, cs1, rfl, hb1, _, _, ⟨rfl, rfl⟩, e1⟩ := r1 k hlt
      obtain ⟨i2, b2, o2, f2, cs2, rfl, hb2, _, _, ⟨rfl, rfl⟩, e2⟩ := r2 k hlt
      have c0 := (hb.cell (p := ⟨b1, o1 + k * 4 + 0, none⟩) hb1).trans (e1 0 (by simp))
      have c1 := (hb.cell (p := ⟨b1, o1 + k * 4 + 1, none⟩) hb1).trans (e1 1 (by simp))
      have c2 := (hb.cell (p := ⟨b1, o1 + k * 4 + 2, none⟩) hb1).trans (e1 2 (by simp))
      have c3 := (hb.cell (p := ⟨b1, o1 + k * 4 + 3, none⟩) hb1).trans (e1 3 (by simp))
      have d0 := (hb.cell (p := ⟨b2, o2 + k * 4 + 0, none⟩) hb2).trans (e2 0 (by simp))
      have d1 := (hb.cell (p := ⟨b2, o2 + k * 4 + 1, none⟩) hb2).trans (e2 1 (by simp))
      have d2 := (hb.cell (p := ⟨b2, o2 + k * 4 + 2, none⟩) hb2).trans (e2 2 (by simp))
      have d3 := (hb.cell (p := ⟨b2, o2 + k * 4 + 3, none⟩) hb2).trans (e2 3 (by simp))
      simp only [Nat.add_zero, List.getElem_cons_zero, List.getElem_cons_succ] at c0 c1 c2 c3 d0 d1 d2 d3
      clear r1 r2 e1 e2 hb
      go_wp2_with fail
      go_still_tail 8, (by kernel_rfl)
      change wpList _ _ _ _ _ wr.drew
      clear c0 c1 c2 c3 d0 d1 d2 d3
      go_wp2_with fail
      refine (eqMr_any l1[k] l2[k] _).mono ?_
      rintro e w2 ⟨rfl, b3⟩
      have HB2 := Lib.hid ((HB.out.trans (Below.refl _ _).drew).trans (b3.mono HB.out.size))
      clear b3
      cases hq : decide (l1[k] = l2[k])
      · have HQ := Lib.hid (of_decide_eq_false hq)
        clear hq
        go_wp2
        go_ret
        exact ⟨ret_bool (by simp; intro e; exact HQ.out (by simp [e])), HB2.out⟩
      · have HQ := Lib.hid (of_decide_eq_true hq)
        clear hq
        go_wp2
        go_roundw
        case rel => exact ⟨k + 1, by omega, by go_num, take_succ_eq HT.out i1 i2 HQ.out, HB2.out⟩
        case measure => simp [intOf]; omega
    · clear r1 r2 hb
      go_wp2
      go_ret
      exact ⟨ret_bool (by simp [take_all_eq HT.out hn1.out hn2.out (by omega)]), HB.out⟩
 · clear r1 r2
   have hne : l1 ≠ l2 := fun e => hL (by rw [<- hn1.out, <- hn2.out, e])
   have hq : ((n1 : Int) != n2) = true := by simp; omega
   go_enter Tryz.func39, Tryz.ntmps39
   go_wp2
   go_ret
   exact ⟨ret_bool (by simp [hne]), Below.refl _ _⟩
set_option maxRecDepth 100000 in
theorem opens_mr : Opens Tryz.prog 99 mrR := fun {H enc w fuel cs x} h => by
 obtain ⟨xs, n, _, _, hl, hx, hf⟩ := DataW.trod_struct Tryz.underlying99 h
 have hk : Tryz.prog.cellsOf 99 = 4 := by kernel_rfl
 have k1 : Tryz.prog.cellsOf 3 = 1 := by kernel_rfl
 have k2 : Tryz.prog.cellsOf 4 = 1 := by kernel_rfl
 rw [hk] at hl
 have hx' : xs.length = 4 := hx
 match cs, hl with
 | [c0, c1, c2, c3], _ =>
  obtain ⟨a, _, ha, _⟩ := opens_int Tryz.underlying3 ((hf 0 _ rfl).trans (List.getElem?_eq_getElem (by omega)))
  obtain ⟨b, _, hb, _⟩ := opens_int Tryz.underlying3 ((hf 1 _ rfl).trans (List.getElem?_eq_getElem (by omega)))
  obtain ⟨c, _, hc, _⟩ := opens_int Tryz.underlying3 ((hf 2 _ rfl).trans (List.getElem?_eq_getElem (by omega)))
  obtain ⟨d, _, hd, _⟩ := opens_bool Tryz.underlying4 ((hf 3 _ rfl).trans (List.getElem?_eq_getElem (by omega)))
  simp [k1] at ha hb hc
  simp [k2] at hd
  subst ha hb hc hd
  exact ⟨⟨a, b, c, d⟩, [], rfl, rfl⟩
theorem opens_mrs : Opens Tryz.prog 22 (slR 4 mrR) :=
 opens_slice Tryz.underlying22 (by kernel_rfl) (by decide) opens_mr mrR_fits
end Go.Proofs.YtaeiddoccfaheaaGreat
namespace Go.Proofs.YtaeiddoccfaheaaGreat
open Go.RowKit
def sm_mrs (l : List MR) : Prop := l.length <= 1048576
theorem sz_mrs (v : Value) (x : List MR) (fp : List Nat) (left : Int) (h0 : 0 <= left) (h1 : left <= 1048576) (w : World) (g : SlR 4 mrR w x v fp) :
 Calls Tryz.prog 20 #[v, .int .i64 left] w (SzP left (sm_mrs x) w) :=
 (szMrS_any v x fp left h0 h1 w g).mono fun _ _ ⟨he, hw⟩ => by subst hw; exact SzP.exact h0 h1 he id (Below.refl _ _)
theorem eq_mrs (v1 v2 : Value) (l1 l2 : List MR) (fp1 fp2 : List Nat) (w : World) (g1 : SlR 4 mrR w l1 v1 fp1) (g2 : SlR 4 mrR w l2 v2 fp2) :
 Calls Tryz.prog 39 #[v1, v2] w fun e w' => e = .returned (.bool (decide (l1 = l2))) ∧ Below w.heap.size w w' := eqMrS_any v1 v2 l1 l2 fp1 fp2 w g1 g2
theorem to_mrs (v : Value) (l : List MR) (fp : List Nat) (hs : sm_mrs l) (w : World) (g : SlR 4 mrR w l v fp) :
 Calls Tryz.prog 27 #[v] w fun e w' => ∃ v' fp', e = .returned v' ∧ SlR 4 mrR w' l v' fp' ∧ New fp' w w' ∧ Below w.heap.size w w' := toMrS_any v l fp hs w g
end Go.Proofs.YtaeiddoccfaheaaGreat
