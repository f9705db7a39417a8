/-
  Ranges handed in: szMapRangeS, toMapRange, toMapRangeS, eqMapRange, eqMapRangeS.
-/
import Derived.Test.YtmmojgopeaelcaaProg
import Derived.Test.YtmmojgopeaelcaaBase
import Derived.Test.YtmmojgopeaelcaaMap
import Derived.OwnWalk
import Derived.StillTailTactics
import Derived.WalkSmall
import Derived.KernelRfl
namespace Go.Proofs.Ytmmojgopeaelcaa
set_option linter.unusedVariables false
set_option linter.unusedSimpArgs false
open Go.RowKit Go.ChangeShapes

def MrC (x : MR) : List Value := [.int .i64 x.fr, .int .i64 x.to, .int .i64 x.sl, .bool x.only]
theorem MrC_len (x : MR) : (MrC x).length = 4 := rfl

theorem toMr_any (x : MR) (w : World) :
    Calls Try.prog 134 #[.agg #[.int .i64 x.fr, .int .i64 x.to, .int .i64 x.sl, .bool x.only]] w fun e w' => e = .returned (.agg #[.int .i64 x.fr, .int .i64 x.to, .int .i64 x.sl, .bool x.only]) ∧ Below w.heap.size w w' := by
  go_enter Try.func134, Try.ntmps134
  go_wp2
  exact bodyPost_ret (v := .agg #[.int .i64 x.fr, .int .i64 x.to, .int .i64 x.sl, .bool x.only]) (by simp [results, Try.results134, go_sem]) rfl ⟨rfl, below3 w _ _ _⟩

theorem eqMr_any (x y : MR) (w : World) :
    Calls Try.prog 142 #[.agg #[.int .i64 x.fr, .int .i64 x.to, .int .i64 x.sl, .bool x.only], .agg #[.int .i64 y.fr, .int .i64 y.to, .int .i64 y.sl, .bool y.only]] w fun e w' => e = .returned (.bool (decide (x = y))) ∧ Below w.heap.size w w' := by
  have hb : Below w.heap.size w ((w.alloc (.cells #[.int .i64 x.fr, .int .i64 x.to, .int .i64 x.sl, .bool x.only] 103)).alloc (.cells #[.int .i64 y.fr, .int .i64 y.to, .int .i64 y.sl, .bool y.only] 103)) := ((Below.refl _ _).alloc (Nat.le_refl _) _).alloc (by simp) _
  have HB := Lib.hid hb
  have hd : decide (x = y) = (decide (x.fr = y.fr) && decide (x.to = y.to) && decide (x.sl = y.sl) && decide (x.only = y.only)) := by
    cases x; cases y; simp [Bool.and_assoc]
  have HD := Lib.hid hd
  clear hd hb
  by_cases h0 : x.fr = y.fr
  case' neg =>
    have q0 : (x.fr != y.fr) = true := by simp [h0]
    have H0 := Lib.hid h0
    clear h0
    go_enter Try.func142, Try.ntmps142
    go_wp2
    go_ret
    exact ⟨ret_bool (by rw [HD.out, decide_eq_false H0.out]; simp), HB.out⟩
  have q0 : (x.fr != y.fr) = false := by simp [h0]
  have H0 := Lib.hid h0
  clear h0
  by_cases h1 : x.to = y.to
  case' neg =>
    have q1 : (x.to != y.to) = true := by simp [h1]
    have H1 := Lib.hid h1
    clear h1
    go_enter Try.func142, Try.ntmps142
    go_wp2
    go_ret
    exact ⟨ret_bool (by rw [HD.out, decide_eq_false H1.out]; simp), HB.out⟩
  have q1 : (x.to != y.to) = false := by simp [h1]
  have H1 := Lib.hid h1
  clear h1
  by_cases h2 : x.sl = y.sl
  case' neg =>
    have q2 : (x.sl != y.sl) = true := by simp [h2]
    have H2 := Lib.hid h2
    clear h2
    go_enter Try.func142, Try.ntmps142
    go_wp2
    go_ret
    exact ⟨ret_bool (by rw [HD.out, decide_eq_false H2.out]; simp), HB.out⟩
  have q2 : (x.sl != y.sl) = false := by simp [h2]
  have H2 := Lib.hid h2
  clear h2
  by_cases h3 : x.only = y.only
  case' neg =>
    have q3 : (!x.only == y.only) = true := by simp [h3]
    have H3 := Lib.hid h3
    clear h3
    go_enter Try.func142, Try.ntmps142
    go_wp2
    go_ret
    exact ⟨ret_bool (by rw [HD.out, decide_eq_false H3.out]; simp), HB.out⟩
  have q3 : (!x.only == y.only) = false := by simp [h3]
  have H3 := Lib.hid h3
  clear h3
  go_enter Try.func142, Try.ntmps142
  go_wp2
  go_ret
  exact ⟨ret_bool (by rw [HD.out, decide_eq_true H0.out, decide_eq_true H1.out, decide_eq_true H2.out, decide_eq_true H3.out]; rfl), HB.out⟩

theorem szMrS_any (v : Value) (l : List MR) (fp : List Nat) (left : Int) (h0 : 0 ≤ left) (h1 : left ≤ 1048576) (w : World) (hv : SlR 4 mrR w l v fp) :
    Calls Try.prog 67 #[v, .int .i64 left] w fun e w' => e = .returned (.int .i64 (szR left l.length)) ∧ w = w' := by
  obtain ⟨a, n, cap, rfl, hn, hcap, hmax, _, _⟩ := hv.opened
  rw [hn.out]
  clear hn hv
  by_cases h : left < n
  all_goals
    go_enter Try.func67, Try.ntmps67
    go_wp2
    go_ret
    refine ⟨ret_int ?_, rfl⟩
    unfold szR
    first | rw [if_pos (by omega)] | rw [if_neg (by omega)]

theorem infoMr : (Try.prog.info? 103).map (fun i => (i.zero, i.size, i.bytes)) = some (some (.agg #[.int .i64 0, .int .i64 0, .int .i64 0, .bool false]), 4, 32) := by kernel_rfl

theorem toMrS_any (v : Value) (l : List MR) (fp : List Nat) (hs : l.length ≤ 1048576) (w : World) (g : SlR 4 mrR w l v fp) :
    Calls Try.prog 72 #[v] w fun e w' => ∃ v' fp', e = .returned v' ∧ SlR 4 mrR w' l v' fp' ∧ New fp' w w' ∧ Below w.heap.size w w' := by
  obtain ⟨a, n, cap, rfl, hn, hcap, hmax, hcm, r⟩ := g.opened
  have G := Lib.hid g
  have hns : n ≤ 1048576 := by rw [← hn.out]; exact hs
  clear g hs
  obtain ⟨i0, hi, hz0, hz1, hz2⟩ := info_parts infoMr
  go_enter Try.func72, Try.ntmps72
  go_wp2_with (at_make; refine wpList_make_full _ rfl _ _ 29 rfl w.heap.size 103 i0 (.agg #[.int .i64 0, .int .i64 0, .int .i64 0, .bool false]) 4 Try.underlying29 hi hz0 hz1 _ _ _ _ n rfl rfl rfl rfl (by rw [hz2]; omega) (by unfold maxLen; omega) (Nat.le_refl _) ?_; intro w1 hown hgr)
  go_loopw [4] (fun i wr => ∃ (k : Nat) (xs : List Value), k ≤ n ∧ i = .int .i64 k ∧ wr.ownsRow w.heap.size 103 4 (.slice (some ⟨w.heap.size, 0, none⟩) n n) n xs ∧ (∀ i (hi : i < l.length), i < k → ∀ j (hj : j < (MrC l[i]).length), xs[i * 4 + j]? = some (MrC l[i])[j]) ∧ Below w.heap.size w wr) (fun i _ => n - (intOf i).toNat)
  case atStart => exact ⟨0, _, Nat.zero_le _, rfl, hown, fun i _ h => absurd h (Nat.not_lt_zero i), (Below.refl _ _).grown hgr (Nat.le_refl _) (fun k hk => by simp at hk)⟩
  case round =>
    clear hown hgr
    obtain ⟨k, xs, hk, rfl, hown, hdone, hbel⟩ := hrel
    have HO := Lib.hid hown
    have HD := Lib.hid hdone
    have HB := Lib.hid hbel
    by_cases hlt : k < n
    · obtain ⟨i1, b1, o1, f1, cs, rfl, hb1, _, _, ⟨rfl, rfl⟩, e1⟩ := r k hlt
      have hlx := hown.1
      have c0 := (hbel.cell (p := ⟨b1, o1 + k * 4 + 0, none⟩) hb1).trans (e1 0 (by simp))
      have c1 := (hbel.cell (p := ⟨b1, o1 + k * 4 + 1, none⟩) hb1).trans (e1 1 (by simp))
      have c2 := (hbel.cell (p := ⟨b1, o1 + k * 4 + 2, none⟩) hb1).trans (e1 2 (by simp))
      have c3 := (hbel.cell (p := ⟨b1, o1 + k * 4 + 3, none⟩) hb1).trans (e1 3 (by simp))
      simp only [Nat.add_zero, List.getElem_cons_zero, List.getElem_cons_succ] at c0 c1 c2 c3
      clear r e1 hown hdone
      go_wp2_with fail
      refine (toMr_any l[k] _).mono ?_
      rintro e w2 ⟨rfl, b2⟩
      have HB2 := Lib.hid (hbel.trans (b2.mono hbel.size))
      have hgl : w.heap.size < wr.heap.size := HO.out.lt _ rfl |>.2
      have hO2 : w2.ownsRow w.heap.size 103 4 (.slice (some ⟨w.heap.size, 0, none⟩) n n) n xs := HO.out.kept (row := none) ⟨b2.os, b2.tape, b2.output, b2.size, fun q hq _ => b2.block q hq⟩ (.inr (by simp [Value.ownBlock]))
      obtain ⟨x0, d0⟩ : ∃ x, w2.cell? ⟨w.heap.size, k * 4 + 0, none⟩ = some x := ⟨_, by rw [hO2.cellAt (k * 4 + 0) (by omega)]; exact List.getElem?_eq_getElem (by omega)⟩
      obtain ⟨x1, d1⟩ : ∃ x, w2.cell? ⟨w.heap.size, k * 4 + 1, none⟩ = some x := ⟨_, by rw [hO2.cellAt (k * 4 + 1) (by omega)]; exact List.getElem?_eq_getElem (by omega)⟩
      obtain ⟨x2, d2⟩ : ∃ x, w2.cell? ⟨w.heap.size, k * 4 + 2, none⟩ = some x := ⟨_, by rw [hO2.cellAt (k * 4 + 2) (by omega)]; exact List.getElem?_eq_getElem (by omega)⟩
      obtain ⟨x3, d3⟩ : ∃ x, w2.cell? ⟨w.heap.size, k * 4 + 3, none⟩ = some x := ⟨_, by rw [hO2.cellAt (k * 4 + 3) (by omega)]; exact List.getElem?_eq_getElem (by omega)⟩
      have f0 := hO2.frozenAt (k * 4 + 0)
      have f1 := hO2.frozenAt (k * 4 + 1)
      have f2 := hO2.frozenAt (k * 4 + 2)
      have f3 := hO2.frozenAt (k * 4 + 3)
      simp only [Nat.add_zero] at d0 f0
      have HO2 := Lib.hid hO2
      have HL := Lib.hid hlx
      clear b2 hO2 hbel hlx c0 c1 c2 c3
      go_wp2
      go_roundw
      case rel =>
        have hs := ((((HO2.out.stored (k * 4 + 0) (.int .i64 l[k].fr)).1.stored (k * 4 + 1) (.int .i64 l[k].to)).1.stored (k * 4 + 2) (.int .i64 l[k].sl)).1.stored (k * 4 + 3) (.bool l[k].only)).1
        exact ⟨k + 1, putRow xs (k * 4) (MrC l[k]), by omega, by go_num, hs, row_done MrC_len hn.out HL.out i1 HD.out, (((HB2.out.setCell (Nat.le_refl _) _).setCell (Nat.le_refl _) _).setCell (Nat.le_refl _) _).setCell (Nat.le_refl _) _⟩
      case measure => simp [intOf]; omega
    · obtain rfl : k = n := by omega
      obtain ⟨fp', g1, g2, g3, g4⟩ := SlR.of_owns hown hn.out MrC_len (fun i hi j hj => hdone i hi (by rw [hn.out] at hi; exact hi) j hj)
      have HG1 := Lib.hid (show SlR 4 mrR wr l _ fp' from g1)
      have HG2 := Lib.hid g2
      have HG3 := Lib.hid g3
      have HG4 := Lib.hid g4
      clear r hown hdone hbel g1 g2 g3 g4
      go_wp2
      go_ret
      exact ⟨_, fp', rfl, HG1.out, ⟨HG2.out, HG3.out, HG4.out⟩, HB.out⟩

end Go.Proofs.Ytmmojgopeaelcaa
