/-
  An address drawn.
-/
import Derived.Test.YtaeiddoccfaheaaDoorProg
import Derived.Test.YtaeiddoccfaheaaDoorBase
import Derived.Test.YtaeiddoccfaheaaDoorDraw
namespace Go.Proofs.YtaeiddoccfaheaaDoor
set_option linter.unusedVariables false
set_option linter.unusedSimpArgs false
open Go.RowKit

set_option maxHeartbeats 400000 in
theorem l20Addr_any (rb : Nat) (fq : List Nat) (N : Int) (hN : N ≤ 999000000) (w : World) (h : RdAt w rb fq N) :
    Calls Tryd.prog 49 #[.pointer (some ⟨rb, 0, none⟩)] w fun e w' => RetInt 0 63 e ∧ RdAt w' rb fq (N + 7) ∧ Chg [rb] w w' := by
  have H0 := Lib.hid (h.mono (show N ≤ N + 0 by omega))
  clear h
  go_enter Tryd.func49, Tryd.ntmps49
  go_wp2_with fail
  refine (pick_any rb fq (N + 0) 4 (by omega) (by omega) (by omega) _ H0.out).mono ?_
  rintro e w1 ⟨x1, rfl, lo1, hi1, h1, h2⟩
  have H1 := Lib.hid (h1.mono (show N + 0 + 1 ≤ N + 1 by omega))
  have C1 := Lib.hid (h2)
  clear h1 h2 H0
  go_wp2_with fail
  refine (pick_any rb fq (N + 1) 4 (by omega) (by omega) (by omega) _ H1.out).mono ?_
  rintro e w2 ⟨x2, rfl, lo2, hi2, h1, h2⟩
  have H2 := Lib.hid (h1.mono (show N + 1 + 1 ≤ N + 2 by omega))
  have C2 := Lib.hid (C1.out.trans' h2)
  clear h1 h2 H1 C1
  go_wp2_with fail
  refine (pick_any rb fq (N + 2) 4 (by omega) (by omega) (by omega) _ H2.out).mono ?_
  rintro e w3 ⟨x3, rfl, lo3, hi3, h1, h2⟩
  have H3 := Lib.hid (h1.mono (show N + 2 + 1 ≤ N + 3 by omega))
  have C3 := Lib.hid (C2.out.trans' h2)
  clear h1 h2 H2 C2
  go_wp2_with fail
  refine (pick_any rb fq (N + 3) 64 (by omega) (by omega) (by omega) _ H3.out).mono ?_
  rintro e w4 ⟨x4, rfl, lo4, hi4, h1, h2⟩
  have H4 := Lib.hid (h1.mono (show N + 3 + 1 ≤ N + 4 by omega))
  have C4 := Lib.hid (C3.out.trans' h2)
  clear h1 h2 H3 C3
  go_wp2_with fail
  refine (pick_any rb fq (N + 4) 5 (by omega) (by omega) (by omega) _ H4.out).mono ?_
  rintro e w5 ⟨x5, rfl, lo5, hi5, h1, h2⟩
  have H5 := Lib.hid (h1.mono (show N + 4 + 1 ≤ N + 5 by omega))
  have C5 := Lib.hid (C4.out.trans' h2)
  clear h1 h2 H4 C4
  go_wp2_with fail
  refine (pick_any rb fq (N + 5) 4 (by omega) (by omega) (by omega) _ H5.out).mono ?_
  rintro e w6 ⟨x6, rfl, lo6, hi6, h1, h2⟩
  have H6 := Lib.hid (h1.mono (show N + 5 + 1 ≤ N + 6 by omega))
  have C6 := Lib.hid (C5.out.trans' h2)
  clear h1 h2 H5 C5
  go_wp2_with fail
  have hlt := H6.out.lt
  have ba : ∀ (A B : Array Value), Below w6.heap.size w6 ((w6.alloc (.cells A 3)).alloc (.cells B 3)) := fun A B => ((Below.refl _ _).alloc (Nat.le_refl _) _).alloc (by simp) _
  refine (pick_any rb fq (N + 6) 8 (by omega) (by omega) (by omega) _ (H6.out.below (ba _ _))).mono ?_
  rintro e w7 ⟨x7, rfl, lo7, hi7, h1, h2⟩
  have n0 : w6.heap.size ∉ [rb] := by simp; omega
  have n1 : w6.heap.size + 1 ∉ [rb] := by simp; omega
  have c0 := keep_cell_chg h2 (alloc2_old w6 _ _ _ _ 0 rfl) n0
  have c1 := keep_cell_chg h2 (alloc2_old w6 _ _ _ _ 1 rfl) n0
  have c2 := keep_cell_chg h2 (alloc2_old w6 _ _ _ _ 2 rfl) n0
  have c3 := keep_cell_chg h2 (alloc2_old w6 _ _ _ _ 3 rfl) n0
  have c4 := keep_cell_chg h2 (alloc2_old w6 _ _ _ _ 4 rfl) n0
  have c5 := keep_cell_chg h2 (alloc2_old w6 _ _ _ _ 5 rfl) n0
  have d0 := keep_cell_chg h2 (alloc2_new w6 _ _ _ _ 0 rfl) n1
  have d1 := keep_cell_chg h2 (alloc2_new w6 _ _ _ _ 1 rfl) n1
  have d2 := keep_cell_chg h2 (alloc2_new w6 _ _ _ _ 2 rfl) n1
  have d3 := keep_cell_chg h2 (alloc2_new w6 _ _ _ _ 3 rfl) n1
  have d4 := keep_cell_chg h2 (alloc2_new w6 _ _ _ _ 4 rfl) n1
  have d5 := keep_cell_chg h2 (alloc2_new w6 _ _ _ _ 5 rfl) n1
  have d6 := keep_cell_chg h2 (alloc2_new w6 _ _ _ _ 6 rfl) n1
  have d7 := keep_cell_chg h2 (alloc2_new w6 _ _ _ _ 7 rfl) n1
  have H7 := Lib.hid (h1.mono (show N + 6 + 1 ≤ N + 7 by omega))
  have C7 := Lib.hid (C6.out.trans' (((ba _ _).chg [rb]).trans' h2))
  clear h1 h2 H6 C6 ba
  have hx : x7 = 0 ∨ x7 = 1 ∨ x7 = 2 ∨ x7 = 3 ∨ x7 = 4 ∨ x7 = 5 ∨ x7 = 6 ∨ x7 = 7 := by omega
  rcases hx with rfl | rfl | rfl | rfl | rfl | rfl | rfl | rfl
  all_goals
    go_wp2
    go_ret
    exact ⟨⟨_, by omega, by omega, rfl⟩, H7.out, C7.out⟩

end Go.Proofs.YtaeiddoccfaheaaDoor
