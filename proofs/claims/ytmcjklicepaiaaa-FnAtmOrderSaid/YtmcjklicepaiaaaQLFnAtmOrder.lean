/-
 Proved: the Go function laws.FnAtmOrder returns true for all arguments: the program's AtmOrder answers as the reference's; what it tells of is done in the order in which it happens, and the store and what is held are ok then.
 Conditions: none.
-/
import Derived.Test.YtmcjklicepaiaaaPk33
import Derived.Test.YtmcjklicepaiaaaQDAtmOrder
import Derived.Test.YtmcjklicepaiaaaQOrdI
import Derived.Test.YtmcjklicepaiaaaPk43
import Derived.Test.YtmcjklicepaiaaaPk44
import Derived.Test.YtmcjklicepaiaaaPk34
import Derived.Deep.Cut
set_option linter.unusedVariables false
set_option linter.unusedSimpArgs false
namespace Go.Proofs.Ytmcjklicepaiaaa
def tbFnAtmOrder14 : List (List Nat) := [[], [], [0, 1], [0, 1, 2], [0, 1, 2, 3], [0, 1, 2, 3, 4], [0, 1, 2, 3, 4, 5], [0, 1, 2, 3, 4, 5, 6], [0, 1, 2, 3, 4, 5, 6], [0, 1, 2, 3, 4, 5, 6, 8], [0, 1, 2, 3, 4, 5, 6, 7, 8, 9], [0, 1, 2, 3, 4, 5, 6, 7, 8, 9, 10], [0, 1, 2, 3, 4, 5, 6, 7, 8, 9, 10, 11], [0, 1, 2, 3, 4, 5, 6, 7, 8, 9, 10, 11, 12], [0, 1, 2, 3, 4, 5, 6, 7, 8, 9, 10, 11, 12], [0, 1, 2, 3, 4, 5, 6, 7, 8, 9, 10, 11, 12, 13, 14], [0, 1, 2, 3, 4, 5, 6, 7, 8, 9, 10, 11, 12, 13, 14, 15], [0, 1, 2, 3, 4, 5, 6, 7, 8, 9, 10, 11, 12, 13, 14, 15, 16], [0, 1, 2, 3, 4, 5, 6, 7, 8, 9, 10, 11, 12], [0, 1, 2, 3, 4, 5, 6, 7, 8, 9, 10, 11, 12], [0, 1, 2, 3, 4, 5, 6, 7, 8, 9, 10, 11, 12, 18, 19], [0, 1, 2, 3, 4, 5, 6, 7, 8, 9, 10, 11, 12, 18, 19, 20], [0, 1, 2, 3, 4, 5, 6, 7, 8, 9, 10, 11, 12, 18, 19, 20, 21], [0, 1, 2, 3, 4, 5, 6, 7, 8, 9, 10, 11, 12, 13, 14, 15, 16, 17, 18, 19, 20, 21, 22], [0, 1, 2, 3, 4, 5, 6, 7, 8, 9, 10, 11, 12, 13, 14, 15, 16, 17, 18, 19, 20, 21, 22, 23], [0, 1, 2, 3, 4, 5, 6, 7, 8, 9, 10, 11, 12, 13, 14, 15, 16, 17, 18, 19, 20, 21, 22, 23, 24], [0, 1, 2, 3, 4, 5, 6, 7, 8, 9, 10, 11, 12, 13, 14, 15, 16, 17, 18, 19, 20, 21, 22, 23, 24, 25], [0, 1, 2, 3, 4, 5, 6, 7, 8, 9, 10, 11, 12, 13, 14, 15, 16, 17, 18, 19, 20, 21, 22, 23, 24, 25], [0, 1, 2, 3, 4, 5, 6, 7, 8, 9, 10, 11, 12, 13, 14, 15, 16, 17, 18, 19, 20, 21, 22, 23, 24, 25, 26, 27], [0, 1, 2, 3, 4, 5, 6, 7, 8, 9, 10, 11, 12, 13, 14, 15, 16, 17, 18, 19, 20, 21, 22, 23, 24, 25, 26, 27, 28], [0, 1, 2, 3, 4, 5, 6, 7, 8, 9, 10, 11, 12, 13, 14, 15, 16, 17, 18, 19, 20, 21, 22, 23, 24, 25, 26, 27, 28, 29], [0, 1, 2, 3, 4, 5, 6, 7, 8, 9, 10, 11, 12, 13, 14, 15, 16, 17, 18, 19, 20, 21, 22, 23, 24, 25], [0, 1, 2, 3, 4, 5, 6, 7, 8, 9, 10, 11, 12, 13, 14, 15, 16, 17, 18, 19, 20, 21, 22, 23, 24, 25], [0, 1, 2, 3, 4, 5, 6, 7, 8, 9, 10, 11, 12, 13, 14, 15, 16, 17, 18, 19, 20, 21, 22, 23, 24, 25, 31, 32], [0, 1, 2, 3, 4, 5, 6, 7, 8, 9, 10, 11, 12, 13, 14, 15, 16, 17, 18, 19, 20, 21, 22, 23, 24, 25, 31, 32, 33], [0, 1, 2, 3, 4, 5, 6, 7, 8, 9, 10, 11, 12, 13, 14, 15, 16, 17, 18, 19, 20, 21, 22, 23, 24, 25, 31, 32, 33, 34], [0, 1, 2, 3, 4, 5, 6, 7, 8, 9, 10, 11, 12, 13, 14, 15, 16, 17, 18, 19, 20, 21, 22, 23, 24, 25, 26, 27, 28, 29, 30, 31, 32, 33, 34, 35], [0, 1, 2, 3, 4, 5, 6, 7, 8, 9, 10, 11, 12, 13, 14, 15, 16, 17, 18, 19, 20, 21, 22, 23, 24, 25, 26, 27, 28, 29, 30, 31, 32, 33, 34, 35, 36]]
open Go.RowKit Go.ChangeShapes Go.WideShapes Go.ChangeAt
theorem SlR.lenIs {α : Type} {k : Nat} {R : Pr α} {w : World} {l : List α} {a : Option Addr} {n c : Nat} {fp : List Nat} (h : SlR k R w l (.slice a n c) fp) : l.length = n := by
 obtain ⟨_, _, _, e, h2, _⟩ := h
 cases e
 exact h2
set_option maxRecDepth 100000 in
set_option maxHeartbeats 12800000 in
theorem walk (v : Value) (l0 : List Int) (fp0 : List Nat) (w : World) (g : ByteS w l0 v fp0) :
 Calls Try.prog 10 #[v] w fun e w' => e = .returned (.bool true) ∧ Below w.heap.size w w' := by
 obtain ⟨a0, n0, c0, rfl, hn0, hcap0, hmax0, hcm0, _⟩ := g.opened
 have G := Lib.hid g
 clear g
 by_cases hb : 1048576 < n0
 · go_enter Try.func10, Try.ntmps10
   go_wp2
   go_ret
   exact ⟨rfl, Below.refl _ _⟩
 · go_enter Try.func10, Try.ntmps10
   go_wp2_with fail
   refine (drawAtmOrder_any _ l0 fp0 w G.out).mono ?_
   rintro e w1 ⟨x, va, la, pa, vn, vc, ln, lc, pn, pc, le, ea, en, ec, fe, rfl, br, ge, hen, b1⟩
   obtain ⟨⟨f0, g0⟩, ⟨f1, g1⟩, ⟨f2, g2⟩⟩ := br
   obtain ⟨w2, hw2⟩ : ∃ z, z = w1.alloc (.cells #[.slice va vn vc, .slice la ln lc, .slice pa pn pc] 38) := ⟨_, rfl⟩
   have b2 : Below w1.heap.size w1 w2 := by rw [hw2]; exact below_alloc _ _
   have X0 : w2.cell? ⟨w1.heap.size, 0, none⟩ = some (.slice va vn vc) := by rw [hw2]; exact alloc1_new _ _ _ 0 rfl
   have X1 : w2.cell? ⟨w1.heap.size, 1, none⟩ = some (.slice la ln lc) := by rw [hw2]; exact alloc1_new _ _ _ 1 rfl
   have X2 : w2.cell? ⟨w1.heap.size, 2, none⟩ = some (.slice pa pn pc) := by rw [hw2]; exact alloc1_new _ _ _ 2 rfl
   have HB := Lib.hid (b1.trans (b2.mono b1.size))
   have G0 := Lib.hid (SlR.below mrR_fits g0 b2)
   have G1 := Lib.hid (SlR.below intR_fits g1 b2)
   have G2 := Lib.hid (SlR.below (slR_fits reqR_fits) g2 b2)
   have GE := Lib.hid (SlR.below evR_fits ge b2)
   have HLE : Hid (le.length = en) := Lib.hid ge.lenIs
   obtain ⟨R, hR⟩ : ∃ R, R = atmOrder x le := ⟨_, rfl⟩
   go_upto_region 4 with fail
   rw [<- hw2]
   obtain ⟨bc, hbc⟩ : ∃ z, z = w1.heap.size := ⟨_, rfl⟩
   rw [<- hbc] at X0 X1 X2
   rw [<- hbc]
   clear hw2 hbc g0 g1 g2 ge b1 b2
   have HR := Lib.hid hR
   clear hR
   go_wp2_with fail
   refine (iAtmOrder_any x le _ _ _ _ f0 f1 f2 fe _ G0.out G1.out G2.out GE.out).mono ?_
   rw [<- HR.out]
   rintro e w3 ⟨x0, x1, vj, h0, h1, hj, rfl, s0, s1, sj, -, b3⟩
   obtain ⟨sa, sn, sc, rfl⟩ := s0.form
   obtain ⟨ta, tn, tc, rfl⟩ := s1.form
   obtain ⟨ja, jn, jc, rfl⟩ := sj.form
   obtain ⟨w4, hw4⟩ : ∃ z, z = w3.alloc (.cells #[.slice sa sn sc, .slice ta tn tc] 68) := ⟨_, rfl⟩
   have b4 : Below w3.heap.size w3 w4 := by rw [hw4]; exact below_alloc _ _
   have S0 : w4.cell? ⟨w3.heap.size, 0, none⟩ = some (.slice sa sn sc) := by rw [hw4]; exact alloc1_new _ _ _ 0 rfl
   have S1 : w4.cell? ⟨w3.heap.size, 1, none⟩ = some (.slice ta tn tc) := by rw [hw4]; exact alloc1_new _ _ _ 1 rfl
   have b34 := b3.trans (b4.mono b3.size)
   replace X0 := keep_cell b34 X0
   replace X1 := keep_cell b34 X1
   replace X2 := keep_cell b34 X2
   replace G0 := Lib.hid (SlR.below mrR_fits G0.out b34)
   replace G1 := Lib.hid (SlR.below intR_fits G1.out b34)
   replace G2 := Lib.hid (SlR.below (slR_fits reqR_fits) G2.out b34)
   replace GE := Lib.hid (SlR.below evR_fits GE.out b34)
   replace HB := Lib.hid (HB.out.trans (b34.mono HB.out.size))
   have K0 := Lib.hid (SlR.below intR_fits s0 b4)
   have K1 := Lib.hid (SlR.below intR_fits s1 b4)
   have KJ := Lib.hid (SlR.below jobR_fits sj b4)
   have HTN : Hid (R.1.holds.length = tn) := Lib.hid s1.lenIs
   have HJN : Hid (R.2.length = jn) := Lib.hid sj.lenIs
   go_upto_region 5 with fail
   rw [<- hw4]
   obtain ⟨sb, hsb⟩ : ∃ z, z = w3.heap.size := ⟨_, rfl⟩
   rw [<- hsb] at S0 S1
   rw [<- hsb]
   clear hw4 hsb s0 s1 sj b3 b4 b34
   go_wp2_with fail
   refine (sAtmOrder_any x le _ _ _ _ f0 f1 f2 fe _ G0.out G1.out G2.out GE.out).mono ?_
   rw [<- HR.out]
   rintro e w5 ⟨x0, x1, vj, d0, d1, dj, rfl, s0, s1, sj, -, b5⟩
   obtain ⟨ua, un, uc, rfl⟩ := s0.form
   obtain ⟨ya, yn, yc, rfl⟩ := s1.form
   obtain ⟨za, zn, zc, rfl⟩ := sj.form
   obtain ⟨w6, hw6⟩ : ∃ z, z = w5.alloc (.cells #[.slice ua un uc, .slice ya yn yc] 68) := ⟨_, rfl⟩
   have b6 : Below w5.heap.size w5 w6 := by rw [hw6]; exact below_alloc _ _
   have U0 : w6.cell? ⟨w5.heap.size, 0, none⟩ = some (.slice ua un uc) := by rw [hw6]; exact alloc1_new _ _ _ 0 rfl
   have U1 : w6.cell? ⟨w5.heap.size, 1, none⟩ = some (.slice ya yn yc) := by rw [hw6]; exact alloc1_new _ _ _ 1 rfl
   have b56 := b5.trans (b6.mono b5.size)
   replace X0 := keep_cell b56 X0
   replace X1 := keep_cell b56 X1
   replace X2 := keep_cell b56 X2
   replace S0 := keep_cell b56 S0
   replace S1 := keep_cell b56 S1
   replace G0 := Lib.hid (SlR.below mrR_fits G0.out b56)
   replace G1 := Lib.hid (SlR.below intR_fits G1.out b56)
   replace G2 := Lib.hid (SlR.below (slR_fits reqR_fits) G2.out b56)
   replace GE := Lib.hid (SlR.below evR_fits GE.out b56)
   replace K0 := Lib.hid (SlR.below intR_fits K0.out b56)
   replace K1 := Lib.hid (SlR.below intR_fits K1.out b56)
   replace KJ := Lib.hid (SlR.below jobR_fits KJ.out b56)
   replace HB := Lib.hid (HB.out.trans (b56.mono HB.out.size))
   have L0 := Lib.hid (SlR.below intR_fits s0 b6)
   have L1 := Lib.hid (SlR.below intR_fits s1 b6)
   have LJ := Lib.hid (SlR.below jobR_fits sj b6)
   go_upto_region 6 with fail
   rw [<- hw6]
   obtain ⟨ub, hub⟩ : ∃ z, z = w5.heap.size := ⟨_, rfl⟩
   rw [<- hub] at U0 U1
   rw [<- hub]
   clear hw6 hub s0 s1 sj b5 b6 b56
   go_wp2_with fail
   refine (crAtm_same R.1 _ _ _ _ h0 h1 d0 d1 _ K0.out K1.out L0.out L1.out).mono ?_
   rintro e w7 ⟨rfl, b7⟩
   replace X0 := keep_cell b7 X0
   replace X1 := keep_cell b7 X1
   replace X2 := keep_cell b7 X2
   replace S0 := keep_cell b7 S0
   replace S1 := keep_cell b7 S1
   replace G0 := Lib.hid (SlR.below mrR_fits G0.out b7)
   replace G1 := Lib.hid (SlR.below intR_fits G1.out b7)
   replace G2 := Lib.hid (SlR.below (slR_fits reqR_fits) G2.out b7)
   replace GE := Lib.hid (SlR.below evR_fits GE.out b7)
   replace K0 := Lib.hid (SlR.below intR_fits K0.out b7)
   replace K1 := Lib.hid (SlR.below intR_fits K1.out b7)
   replace KJ := Lib.hid (SlR.below jobR_fits KJ.out b7)
   replace LJ := Lib.hid (SlR.below jobR_fits LJ.out b7)
   replace HB := Lib.hid (HB.out.trans (b7.mono HB.out.size))
   clear b7 U0 U1 L0 L1
   go_wp2_with fail
   refine (crJobs_same _ _ R.2 hj dj _ KJ.out LJ.out).mono ?_
   rintro e w8 ⟨rfl, b8⟩
   replace X0 := keep_cell b8 X0
   replace X1 := keep_cell b8 X1
   replace X2 := keep_cell b8 X2
   replace S0 := keep_cell b8 S0
   replace S1 := keep_cell b8 S1
   replace G0 := Lib.hid (SlR.below mrR_fits G0.out b8)
   replace G1 := Lib.hid (SlR.below intR_fits G1.out b8)
   replace G2 := Lib.hid (SlR.below (slR_fits reqR_fits) G2.out b8)
   replace GE := Lib.hid (SlR.below evR_fits GE.out b8)
   replace K0 := Lib.hid (SlR.below intR_fits K0.out b8)
   replace K1 := Lib.hid (SlR.below intR_fits K1.out b8)
   replace KJ := Lib.hid (SlR.below jobR_fits KJ.out b8)
   replace HB := Lib.hid (HB.out.trans (b8.mono HB.out.size))
   clear b8 LJ
   go_wp2_with fail
   refine (sBusOk_any x _ _ _ f0 f1 f2 _ G0.out G1.out G2.out).mono ?_
   rintro e w9 ⟨rfl, b9⟩
   replace S0 := keep_cell b9 S0
   replace S1 := keep_cell b9 S1
   replace GE := Lib.hid (SlR.below evR_fits GE.out b9)
   replace K0 := Lib.hid (SlR.below intR_fits K0.out b9)
   replace K1 := Lib.hid (SlR.below intR_fits K1.out b9)
   replace KJ := Lib.hid (SlR.below jobR_fits KJ.out b9)
   replace HB := Lib.hid (HB.out.trans (b9.mono HB.out.size))
   clear b9 X0 X1 X2 G0 G1 G2
   by_cases hok : busOk x = true ∧ le.length <= 108
   · have HYES : Hid (R = ordAll x le) := Lib.hid (HR.out.trans (atmOrder_yesI hok))
     have hen8 : ¬ (en : Int) > 108 := by have := HLE.out; omega
     have hjn8 : jn <= en := by
      have := (ordAll_ok hok.1 le le.length (Nat.le_refl _)).jl
      rw [List.take_of_length_le (Nat.le_refl _), <- HYES.out, HJN.out, HLE.out] at this
      exact this
     have Q0 := Lib.hid hok.1
     rw [hok.1]
     clear hok
     go_wp2_with fail
     go_loopw [9, 10] (fun q i wr => ∃ (k m : Nat), k <= en ∧ i = .int .i64 (k : Int) ∧ q = .int .i64 (m : Int) ∧ m <= jn ∧ Hid (doneTo x le k <= m) ∧ Below w9.heap.size w9 wr) (fun _ i _ => en - (intOf i).toNat)
     case atStart => exact ⟨0, 0, Nat.zero_le _, rfl, rfl, Nat.zero_le _, Lib.hid (by rw [doneTo_zero]; exact Nat.le_refl _), Below.refl _ _⟩
     case round =>
      obtain ⟨k, m, hk, rfl, rfl, hm, HD, hb9⟩ := hrel
      have HB9 := Lib.hid hb9
      by_cases hlt : k < en
      · have hlti : (k : Int) < (en : Int) := by omega
        obtain ⟨_, _, _, e, _, _, _, _, r⟩ := (SlR.below evR_fits GE.out hb9).opened
        cases e
        obtain ⟨i1, b1, o1, f1, cs, rfl, _, _, _, ⟨rfl, rfl⟩, e1⟩ := r k hlt
        have p0 := e1 0 (by simp)
        have p1 := e1 1 (by simp)
        have p2 := e1 2 (by simp)
        simp only [Nat.add_zero, List.getElem_cons_zero, List.getElem_cons_succ] at p0 p1 p2
        obtain ⟨ev, hev⟩ : ∃ z, z = le[k] := ⟨_, rfl⟩
        rw [<- hev] at p0 p1 p2
        have HEV := Lib.hid hev
        obtain ⟨kd, wh, nn⟩ := ev
        dsimp only at p0 p1 p2
        have HBk := Lib.hid (HB.out.trans (hb9.mono HB.out.size))
        clear r e1 hev
        go_upto_region 14 with fail
        have HB := HB9
        by_cases qk : kd = 2
        · by_cases hml : m < jn
          · obtain ⟨_, _, _, e, _, _, _, _, r⟩ := (SlR.below jobR_fits KJ.out hb9).opened
            cases e
            obtain ⟨j1, b2, o2, f2, cs2, rfl, _, _, _, ⟨dv2, df2, rfl, rfl, hd2⟩, e2⟩ := r m hml
            have q0 := e2 0 (by simp)
            have q1 := e2 1 (by simp)
            simp only [Nat.add_zero, List.getElem_cons_zero, List.getElem_cons_succ] at q0 q1
            obtain ⟨jw, hjw⟩ : ∃ z, z = R.2[m].who := ⟨_, rfl⟩
            obtain ⟨jm, hjm⟩ : ∃ z, z = R.2[m].n := ⟨_, rfl⟩
            rw [<- hjw] at q0
            rw [<- hjm] at q1
            have HJW := Lib.hid hjw
            have HJM := Lib.hid hjm
            have hmli : (m : Int) < (jn : Int) := by omega
            clear r e2 hd2 hjw hjm hb9
            by_cases q1e : jw = wh
            · by_cases q2e : jm = nn
              · subst qk
                subst q1e
                subst q2e
                have hst : ∀ F, F ∈ [FEq (.slice (some ⟨b1, o1, none⟩) en ec), FEq (.int .i64 (k : Int)), FEq (.pointer (some ⟨b1, o1 + k * 3, none⟩)), FEq (.pointer (some ⟨b1, o1 + k * 3, none⟩)), FEq (.int .i64 2), FEq (.bool true), FEq (.bool true), FEq (.int .i64 (m : Int)), FEq (.slice (some ⟨b2, o2, none⟩) jn jc), FEq (.int .i64 (jn : Int)), FEq (.bool true), FEq (.bool true), FEq (.bool true), FEq (.slice (some ⟨b2, o2, none⟩) jn jc), FEq (.int .i64 (m : Int)), FEq (.pointer (some ⟨b2, o2 + m * 5, none⟩)), FEq (.pointer (some ⟨b2, o2 + m * 5, none⟩)), FEq (.int .i64 jw), FEq (.slice (some ⟨b1, o1, none⟩) en ec), FEq (.int .i64 (k : Int)), FEq (.pointer (some ⟨b1, o1 + k * 3, none⟩)), FEq (.pointer (some ⟨b1, o1 + k * 3 + 1, none⟩)), FEq (.int .i64 jw), FEq (.bool true), FEq (.bool true), FEq (.bool true), FEq (.slice (some ⟨b2, o2, none⟩) jn jc), FEq (.int .i64 (m : Int)), FEq (.pointer (some ⟨b2, o2 + m * 5, none⟩)), FEq (.pointer (some ⟨b2, o2 + m * 5 + 1, none⟩)), FEq (.int .i64 jm), FEq (.slice (some ⟨b1, o1, none⟩) en ec), FEq (.int .i64 (k : Int)), FEq (.pointer (some ⟨b1, o1 + k * 3, none⟩)), FEq (.pointer (some ⟨b1, o1 + k * 3 + 2, none⟩)), FEq (.int .i64 jm), FEq (.bool true), FEq (.bool true)] -> Stable [] F := by
                 simp only [List.forall_mem_cons]
                 exact ⟨stEq _ _, stEq _ _, stEq _ _, stEq _ _, stEq _ _, stEq _ _, stEq _ _, stEq _ _, stEq _ _, stEq _ _, stEq _ _, stEq _ _, stEq _ _, stEq _ _, stEq _ _, stEq _ _, stEq _ _, stEq _ _, stEq _ _, stEq _ _, stEq _ _, stEq _ _, stEq _ _, stEq _ _, stEq _ _, stEq _ _, stEq _ _, stEq _ _, stEq _ _, stEq _ _, stEq _ _, stEq _ _, stEq _ _, stEq _ _, stEq _ _, stEq _ _, stEq _ _, stEq _ _, fun _ h => by simp at h⟩
                refine wp_region_tail (by kernel_rfl) (fun i => (tbFnAtmOrder14 : List (List Nat)).getD i []) (facts [FEq (.slice (some ⟨b1, o1, none⟩) en ec), FEq (.int .i64 (k : Int)), FEq (.pointer (some ⟨b1, o1 + k * 3, none⟩)), FEq (.pointer (some ⟨b1, o1 + k * 3, none⟩)), FEq (.int .i64 2), FEq (.bool true), FEq (.bool true), FEq (.int .i64 (m : Int)), FEq (.slice (some ⟨b2, o2, none⟩) jn jc), FEq (.int .i64 (jn : Int)), FEq (.bool true), FEq (.bool true), FEq (.bool true), FEq (.slice (some ⟨b2, o2, none⟩) jn jc), FEq (.int .i64 (m : Int)), FEq (.pointer (some ⟨b2, o2 + m * 5, none⟩)), FEq (.pointer (some ⟨b2, o2 + m * 5, none⟩)), FEq (.int .i64 jw), FEq (.slice (some ⟨b1, o1, none⟩) en ec), FEq (.int .i64 (k : Int)), FEq (.pointer (some ⟨b1, o1 + k * 3, none⟩)), FEq (.pointer (some ⟨b1, o1 + k * 3 + 1, none⟩)), FEq (.int .i64 jw), FEq (.bool true), FEq (.bool true), FEq (.bool true), FEq (.slice (some ⟨b2, o2, none⟩) jn jc), FEq (.int .i64 (m : Int)), FEq (.pointer (some ⟨b2, o2 + m * 5, none⟩)), FEq (.pointer (some ⟨b2, o2 + m * 5 + 1, none⟩)), FEq (.int .i64 jm), FEq (.slice (some ⟨b1, o1, none⟩) en ec), FEq (.int .i64 (k : Int)), FEq (.pointer (some ⟨b1, o1 + k * 3, none⟩)), FEq (.pointer (some ⟨b1, o1 + k * 3 + 2, none⟩)), FEq (.int .i64 jm), FEq (.bool true), FEq (.bool true)]) (fun m w' => Below wr.heap.size wr w') 115 38 38 [some 67, some 68, some 69, some 70, some 71, some 72, some 73, some 74, some 75, some 76, some 77, some 78, some 79, some 80, some 81, some 82, some 83, some 84, some 85, some 86, some 87, some 88, some 89, some 90, some 91, some 92, some 93, some 94, some 95, some 96, some 97, some 98, some 99, some 100, some 101, some 102, some 103, some 104] [] rfl rfl (by decide) rfl rfl (by kernel_rfl) (by kernel_rfl) [(12, true), (25, true), (6, true)] (by kernel_rfl) (fun g b hm v w h => by simp only [List.mem_cons, List.not_mem_nil, or_false, Prod.mk.injEq] at hm; rcases hm with ⟨rfl, rfl⟩ | ⟨rfl, rfl⟩ | ⟨rfl, rfl⟩ <;> exact h) ?h0 (all_lt (n := 38) ?hop) ?hend
                case h0 => exact (Below.refl _ _).drew
                case hop =>
                 refine ⟨⟨⟨⟨⟨⟨⟨⟨⟨⟨⟨⟨⟨⟨⟨⟨⟨⟨⟨⟨⟨⟨⟨⟨⟨⟨⟨⟨⟨⟨⟨⟨⟨⟨⟨⟨⟨⟨trivial, ?_⟩, ?_⟩, ?_⟩, ?_⟩, ?_⟩, ?_⟩, ?_⟩, ?_⟩, ?_⟩, ?_⟩, ?_⟩, ?_⟩, ?_⟩, ?_⟩, ?_⟩, ?_⟩, ?_⟩, ?_⟩, ?_⟩, ?_⟩, ?_⟩, ?_⟩, ?_⟩, ?_⟩, ?_⟩, ?_⟩, ?_⟩, ?_⟩, ?_⟩, ?_⟩, ?_⟩, ?_⟩, ?_⟩, ?_⟩, ?_⟩, ?_⟩, ?_⟩, ?_⟩
                 · refine Owes.q 115 (fun u => [(4, .slice (some ⟨b1, o1, none⟩) en ec)]) fun u w' hI hR => ?_; dsimp only [frm, List.foldl, List.replicate, List.set]; clear hI hst hR; go_wp2; exact ⟨rfl, _, rfl, rfl, rfl⟩
                 · refine Owes.q 115 (fun u => [(10, .int .i64 (k : Int))]) fun u w' hI hR => ?_; dsimp only [frm, List.foldl, List.replicate, List.set]; clear hI hst hR; go_wp2; exact ⟨rfl, _, rfl, rfl, rfl⟩
                 · refine Owes.q 115 (fun u => [(67, u 0), (68, u 1)]) fun u w' hI hR => ?_; dsimp only [frm, List.foldl, List.replicate, List.set]; have e0 : u 0 = _ := hR 0 (by decide); have e1 : u 1 = _ := hR 1 (by decide); rw [e0, e1]; clear hI hst hR; go_wp2; exact ⟨rfl, _, rfl, rfl, rfl⟩
                 · refine Owes.q 115 (fun u => [(69, u 2)]) fun u w' hI hR => ?_; dsimp only [frm, List.foldl, List.replicate, List.set]; have e2 : u 2 = _ := hR 2 (by decide); rw [e2]; clear hI hst hR; go_wp2; exact ⟨rfl, _, rfl, rfl, rfl⟩
                 · refine Owes.q 115 (fun u => [(70, u 3)]) fun u w' hI hR => ?_; dsimp only [frm, List.foldl, List.replicate, List.set]; obtain ⟨_, hI⟩ := hI; have k0 := keep_cell hI p0; have e3 : u 3 = _ := hR 3 (by decide); rw [e3]; clear hI hst hR; go_wp2; exact ⟨rfl, _, rfl, rfl, rfl⟩
                 · refine Owes.q 115 (fun u => [(71, u 4)]) fun u w' hI hR => ?_; dsimp only [frm, List.foldl, List.replicate, List.set]; have e4 : u 4 = _ := hR 4 (by decide); rw [e4]; clear hI hst hR; go_wp2; exact ⟨rfl, _, rfl, rfl, rfl⟩
                 · refine Owes.q 115 (fun u => [(72, u 5)]) fun u w' hI hR => ?_; dsimp only [frm, List.foldl, List.replicate, List.set]; have e5 : u 5 = _ := hR 5 (by decide); rw [e5]; clear hI hst hR; go_wp2; exact ⟨rfl, _, rfl, rfl, rfl⟩
                 · refine Owes.qG 115 (fun u => [(9, .int .i64 (m : Int))]) fun u w' hI hR => ?_; dsimp only [frm, List.foldl, List.replicate, List.set]; clear hI hst hR; go_wp2; exact ⟨rfl, _, rfl, rfl, rfl⟩
                 · refine Owes.qG 115 (fun u => [(6, .slice (some ⟨b2, o2, none⟩) jn jc)]) fun u w' hI hR => ?_; dsimp only [frm, List.foldl, List.replicate, List.set]; clear hI hst hR; go_wp2; exact ⟨rfl, _, rfl, rfl, rfl⟩
                 · refine Owes.qG 115 (fun u => [(75, u 8)]) fun u w' hI hR => ?_; dsimp only [frm, List.foldl, List.replicate, List.set]; have e8 : u 8 = _ := hR 8 (by decide); rw [e8]; clear hI hst hR; go_wp2; exact ⟨rfl, _, rfl, rfl, rfl⟩
                 · refine Owes.qG 115 (fun u => [(74, u 7), (76, u 9)]) fun u w' hI hR => ?_; dsimp only [frm, List.foldl, List.replicate, List.set]; have e7 : u 7 = _ := hR 7 (by decide); have e9 : u 9 = _ := hR 9 (by decide); rw [e7, e9]; clear hI hst hR; go_wp2; exact ⟨rfl, _, rfl, rfl, rfl⟩
                 · refine Owes.q 115 (fun u => [(73, u 6), (77, u 10)]) fun u w' hI hR => ?_; dsimp only [frm, List.foldl, List.replicate, List.set]; have e6 : u 6 = _ := hR 6 (by decide); have e10 : u 10 = _ := hR 10 (by decide); rw [e6, e10]; clear hI hst hR; go_wp2; exact ⟨rfl, _, rfl, rfl, rfl⟩
                 · refine Owes.q 115 (fun u => [(78, u 11)]) fun u w' hI hR => ?_; dsimp only [frm, List.foldl, List.replicate, List.set]; have e11 : u 11 = _ := hR 11 (by decide); rw [e11]; clear hI hst hR; go_wp2; exact ⟨rfl, _, rfl, rfl, rfl⟩
                 · refine Owes.qG 115 (fun u => [(6, .slice (some ⟨b2, o2, none⟩) jn jc)]) fun u w' hI hR => ?_; dsimp only [frm, List.foldl, List.replicate, List.set]; clear hI hst hR; go_wp2; exact ⟨rfl, _, rfl, rfl, rfl⟩
                 · refine Owes.qG 115 (fun u => [(9, .int .i64 (m : Int))]) fun u w' hI hR => ?_; dsimp only [frm, List.foldl, List.replicate, List.set]; clear hI hst hR; go_wp2; exact ⟨rfl, _, rfl, rfl, rfl⟩
                 · refine Owes.qG 115 (fun u => [(80, u 13), (81, u 14)]) fun u w' hI hR => ?_; dsimp only [frm, List.foldl, List.replicate, List.set]; have e13 : u 13 = _ := hR 13 (by decide); have e14 : u 14 = _ := hR 14 (by decide); rw [e13, e14]; clear hI hst hR; go_wp2; exact ⟨rfl, _, rfl, rfl, rfl⟩
                 · refine Owes.qG 115 (fun u => [(82, u 15)]) fun u w' hI hR => ?_; dsimp only [frm, List.foldl, List.replicate, List.set]; have e15 : u 15 = _ := hR 15 (by decide); rw [e15]; clear hI hst hR; go_wp2; exact ⟨rfl, _, rfl, rfl, rfl⟩
                 · refine Owes.qG 115 (fun u => [(83, u 16)]) fun u w' hI hR => ?_; dsimp only [frm, List.foldl, List.replicate, List.set]; obtain ⟨_, hI⟩ := hI; have k3 := keep_cell hI q0; have e16 : u 16 = _ := hR 16 (by decide); rw [e16]; clear hI hst hR; go_wp2; exact ⟨rfl, _, rfl, rfl, rfl⟩
                 · refine Owes.qG 115 (fun u => [(4, .slice (some ⟨b1, o1, none⟩) en ec)]) fun u w' hI hR => ?_; dsimp only [frm, List.foldl, List.replicate, List.set]; clear hI hst hR; go_wp2; exact ⟨rfl, _, rfl, rfl, rfl⟩
                 · refine Owes.qG 115 (fun u => [(10, .int .i64 (k : Int))]) fun u w' hI hR => ?_; dsimp only [frm, List.foldl, List.replicate, List.set]; clear hI hst hR; go_wp2; exact ⟨rfl, _, rfl, rfl, rfl⟩
                 · refine Owes.qG 115 (fun u => [(85, u 18), (86, u 19)]) fun u w' hI hR => ?_; dsimp only [frm, List.foldl, List.replicate, List.set]; have e18 : u 18 = _ := hR 18 (by decide); have e19 : u 19 = _ := hR 19 (by decide); rw [e18, e19]; clear hI hst hR; go_wp2; exact ⟨rfl, _, rfl, rfl, rfl⟩
                 · refine Owes.qG 115 (fun u => [(87, u 20)]) fun u w' hI hR => ?_; dsimp only [frm, List.foldl, List.replicate, List.set]; have e20 : u 20 = _ := hR 20 (by decide); rw [e20]; clear hI hst hR; go_wp2; exact ⟨rfl, _, rfl, rfl, rfl⟩
                 · refine Owes.qG 115 (fun u => [(88, u 21)]) fun u w' hI hR => ?_; dsimp only [frm, List.foldl, List.replicate, List.set]; obtain ⟨_, hI⟩ := hI; have k1 := keep_cell hI p1; have e21 : u 21 = _ := hR 21 (by decide); rw [e21]; clear hI hst hR; go_wp2; exact ⟨rfl, _, rfl, rfl, rfl⟩
                 · refine Owes.qG 115 (fun u => [(84, u 17), (89, u 22)]) fun u w' hI hR => ?_; dsimp only [frm, List.foldl, List.replicate, List.set]; have e17 : u 17 = _ := hR 17 (by decide); have e22 : u 22 = _ := hR 22 (by decide); rw [e17, e22]; clear hI hst hR; go_wp2; exact ⟨rfl, _, rfl, rfl, rfl⟩
                 · refine Owes.q 115 (fun u => [(79, u 12), (90, u 23)]) fun u w' hI hR => ?_; dsimp only [frm, List.foldl, List.replicate, List.set]; have e12 : u 12 = _ := hR 12 (by decide); have e23 : u 23 = _ := hR 23 (by decide); rw [e12, e23]; clear hI hst hR; go_wp2; exact ⟨rfl, _, rfl, rfl, rfl⟩
                 · refine Owes.q 115 (fun u => [(91, u 24)]) fun u w' hI hR => ?_; dsimp only [frm, List.foldl, List.replicate, List.set]; have e24 : u 24 = _ := hR 24 (by decide); rw [e24]; clear hI hst hR; go_wp2; exact ⟨rfl, _, rfl, rfl, rfl⟩
                 · refine Owes.qG 115 (fun u => [(6, .slice (some ⟨b2, o2, none⟩) jn jc)]) fun u w' hI hR => ?_; dsimp only [frm, List.foldl, List.replicate, List.set]; clear hI hst hR; go_wp2; exact ⟨rfl, _, rfl, rfl, rfl⟩
                 · refine Owes.qG 115 (fun u => [(9, .int .i64 (m : Int))]) fun u w' hI hR => ?_; dsimp only [frm, List.foldl, List.replicate, List.set]; clear hI hst hR; go_wp2; exact ⟨rfl, _, rfl, rfl, rfl⟩
                 · refine Owes.qG 115 (fun u => [(93, u 26), (94, u 27)]) fun u w' hI hR => ?_; dsimp only [frm, List.foldl, List.replicate, List.set]; have e26 : u 26 = _ := hR 26 (by decide); have e27 : u 27 = _ := hR 27 (by decide); rw [e26, e27]; clear hI hst hR; go_wp2; exact ⟨rfl, _, rfl, rfl, rfl⟩
                 · refine Owes.qG 115 (fun u => [(95, u 28)]) fun u w' hI hR => ?_; dsimp only [frm, List.foldl, List.replicate, List.set]; have e28 : u 28 = _ := hR 28 (by decide); rw [e28]; clear hI hst hR; go_wp2; exact ⟨rfl, _, rfl, rfl, rfl⟩
                 · refine Owes.qG 115 (fun u => [(96, u 29)]) fun u w' hI hR => ?_; dsimp only [frm, List.foldl, List.replicate, List.set]; obtain ⟨_, hI⟩ := hI; have k4 := keep_cell hI q1; have e29 : u 29 = _ := hR 29 (by decide); rw [e29]; clear hI hst hR; go_wp2; exact ⟨rfl, _, rfl, rfl, rfl⟩
                 · refine Owes.qG 115 (fun u => [(4, .slice (some ⟨b1, o1, none⟩) en ec)]) fun u w' hI hR => ?_; dsimp only [frm, List.foldl, List.replicate, List.set]; clear hI hst hR; go_wp2; exact ⟨rfl, _, rfl, rfl, rfl⟩
                 · refine Owes.qG 115 (fun u => [(10, .int .i64 (k : Int))]) fun u w' hI hR => ?_; dsimp only [frm, List.foldl, List.replicate, List.set]; clear hI hst hR; go_wp2; exact ⟨rfl, _, rfl, rfl, rfl⟩
                 · refine Owes.qG 115 (fun u => [(98, u 31), (99, u 32)]) fun u w' hI hR => ?_; dsimp only [frm, List.foldl, List.replicate, List.set]; have e31 : u 31 = _ := hR 31 (by decide); have e32 : u 32 = _ := hR 32 (by decide); rw [e31, e32]; clear hI hst hR; go_wp2; exact ⟨rfl, _, rfl, rfl, rfl⟩
                 · refine Owes.qG 115 (fun u => [(100, u 33)]) fun u w' hI hR => ?_; dsimp only [frm, List.foldl, List.replicate, List.set]; have e33 : u 33 = _ := hR 33 (by decide); rw [e33]; clear hI hst hR; go_wp2; exact ⟨rfl, _, rfl, rfl, rfl⟩
                 · refine Owes.qG 115 (fun u => [(101, u 34)]) fun u w' hI hR => ?_; dsimp only [frm, List.foldl, List.replicate, List.set]; obtain ⟨_, hI⟩ := hI; have k2 := keep_cell hI p2; have e34 : u 34 = _ := hR 34 (by decide); rw [e34]; clear hI hst hR; go_wp2; exact ⟨rfl, _, rfl, rfl, rfl⟩
                 · refine Owes.qG 115 (fun u => [(97, u 30), (102, u 35)]) fun u w' hI hR => ?_; dsimp only [frm, List.foldl, List.replicate, List.set]; have e30 : u 30 = _ := hR 30 (by decide); have e35 : u 35 = _ := hR 35 (by decide); rw [e30, e35]; clear hI hst hR; go_wp2; exact ⟨rfl, _, rfl, rfl, rfl⟩
                 · refine Owes.q 115 (fun u => [(92, u 25), (103, u 36)]) fun u w' hI hR => ?_; dsimp only [frm, List.foldl, List.replicate, List.set]; have e25 : u 25 = _ := hR 25 (by decide); have e36 : u 36 = _ := hR 36 (by decide); rw [e25, e36]; clear hI hst hR; go_wp2; exact ⟨rfl, _, rfl, rfl, rfl⟩
                case hend =>
                 intro u w' hI hR
                 simp only [setAll, List.set_cons_zero, List.set_cons_succ]
                 unfold wpList
                 have e37 : u 37 = _ := hR 37 (by decide)
                 rw [e37]
                 have HBw := Lib.hid (HB.out.trans (hI.mono HB.out.size))
                 clear hR hI hst e37 p0 p1 p2 q0 q1
                 go_wp2
                 go_roundw
                 case rel => exact ⟨k + 1, m + 1, by omega, by go_num, by go_num, by omega, Lib.hid (doneTo_go x i1 HD.out), HBw.out⟩
                 case measure => simp [intOf]; omega
              · subst qk
                subst q1e
                have hst : ∀ F, F ∈ [FEq (.slice (some ⟨b1, o1, none⟩) en ec), FEq (.int .i64 (k : Int)), FEq (.pointer (some ⟨b1, o1 + k * 3, none⟩)), FEq (.pointer (some ⟨b1, o1 + k * 3, none⟩)), FEq (.int .i64 2), FEq (.bool true), FEq (.bool true), FEq (.int .i64 (m : Int)), FEq (.slice (some ⟨b2, o2, none⟩) jn jc), FEq (.int .i64 (jn : Int)), FEq (.bool true), FEq (.bool true), FEq (.bool true), FEq (.slice (some ⟨b2, o2, none⟩) jn jc), FEq (.int .i64 (m : Int)), FEq (.pointer (some ⟨b2, o2 + m * 5, none⟩)), FEq (.pointer (some ⟨b2, o2 + m * 5, none⟩)), FEq (.int .i64 jw), FEq (.slice (some ⟨b1, o1, none⟩) en ec), FEq (.int .i64 (k : Int)), FEq (.pointer (some ⟨b1, o1 + k * 3, none⟩)), FEq (.pointer (some ⟨b1, o1 + k * 3 + 1, none⟩)), FEq (.int .i64 jw), FEq (.bool true), FEq (.bool true), FEq (.bool true), FEq (.slice (some ⟨b2, o2, none⟩) jn jc), FEq (.int .i64 (m : Int)), FEq (.pointer (some ⟨b2, o2 + m * 5, none⟩)), FEq (.pointer (some ⟨b2, o2 + m * 5 + 1, none⟩)), FEq (.int .i64 jm), FEq (.slice (some ⟨b1, o1, none⟩) en ec), FEq (.int .i64 (k : Int)), FEq (.pointer (some ⟨b1, o1 + k * 3, none⟩)), FEq (.pointer (some ⟨b1, o1 + k * 3 + 2, none⟩)), FEq (.int .i64 nn), FEq (.bool false), FEq (.bool false)] -> Stable [] F := by
                 simp only [List.forall_mem_cons]
                 exact ⟨stEq _ _, stEq _ _, stEq _ _, stEq _ _, stEq _ _, stEq _ _, stEq _ _, stEq _ _, stEq _ _, stEq _ _, stEq _ _, stEq _ _, stEq _ _, stEq _ _, stEq _ _, stEq _ _, stEq _ _, stEq _ _, stEq _ _, stEq _ _, stEq _ _, stEq _ _, stEq _ _, stEq _ _, stEq _ _, stEq _ _, stEq _ _, stEq _ _, stEq _ _, stEq _ _, stEq _ _, stEq _ _, stEq _ _, stEq _ _, stEq _ _, stEq _ _, stEq _ _, stEq _ _, fun _ h => by simp at h⟩
                refine wp_region_tail (by kernel_rfl) (fun i => (tbFnAtmOrder14 : List (List Nat)).getD i []) (facts [FEq (.slice (some ⟨b1, o1, none⟩) en ec), FEq (.int .i64 (k : Int)), FEq (.pointer (some ⟨b1, o1 + k * 3, none⟩)), FEq (.pointer (some ⟨b1, o1 + k * 3, none⟩)), FEq (.int .i64 2), FEq (.bool true), FEq (.bool true), FEq (.int .i64 (m : Int)), FEq (.slice (some ⟨b2, o2, none⟩) jn jc), FEq (.int .i64 (jn : Int)), FEq (.bool true), FEq (.bool true), FEq (.bool true), FEq (.slice (some ⟨b2, o2, none⟩) jn jc), FEq (.int .i64 (m : Int)), FEq (.pointer (some ⟨b2, o2 + m * 5, none⟩)), FEq (.pointer (some ⟨b2, o2 + m * 5, none⟩)), FEq (.int .i64 jw), FEq (.slice (some ⟨b1, o1, none⟩) en ec), FEq (.int .i64 (k : Int)), FEq (.pointer (some ⟨b1, o1 + k * 3, none⟩)), FEq (.pointer (some ⟨b1, o1 + k * 3 + 1, none⟩)), FEq (.int .i64 jw), FEq (.bool true), FEq (.bool true), FEq (.bool true), FEq (.slice (some ⟨b2, o2, none⟩) jn jc), FEq (.int .i64 (m : Int)), FEq (.pointer (some ⟨b2, o2 + m * 5, none⟩)), FEq (.pointer (some ⟨b2, o2 + m * 5 + 1, none⟩)), FEq (.int .i64 jm), FEq (.slice (some ⟨b1, o1, none⟩) en ec), FEq (.int .i64 (k : Int)), FEq (.pointer (some ⟨b1, o1 + k * 3, none⟩)), FEq (.pointer (some ⟨b1, o1 + k * 3 + 2, none⟩)), FEq (.int .i64 nn), FEq (.bool false), FEq (.bool false)]) (fun m w' => Below wr.heap.size wr w') 115 38 38 [some 67, some 68, some 69, some 70, some 71, some 72, some 73, some 74, some 75, some 76, some 77, some 78, some 79, some 80, some 81, some 82, some 83, some 84, some 85, some 86, some 87, some 88, some 89, some 90, some 91, some 92, some 93, some 94, some 95, some 96, some 97, some 98, some 99, some 100, some 101, some 102, some 103, some 104] [] rfl rfl (by decide) rfl rfl (by kernel_rfl) (by kernel_rfl) [(12, true), (25, true), (6, true)] (by kernel_rfl) (fun g b hm v w h => by simp only [List.mem_cons, List.not_mem_nil, or_false, Prod.mk.injEq] at hm; rcases hm with ⟨rfl, rfl⟩ | ⟨rfl, rfl⟩ | ⟨rfl, rfl⟩ <;> exact h) ?h0 (all_lt (n := 38) ?hop) ?hend
                case h0 => exact (Below.refl _ _).drew
                case hop =>
                 refine ⟨⟨⟨⟨⟨⟨⟨⟨⟨⟨⟨⟨⟨⟨⟨⟨⟨⟨⟨⟨⟨⟨⟨⟨⟨⟨⟨⟨⟨⟨⟨⟨⟨⟨⟨⟨⟨⟨trivial, ?_⟩, ?_⟩, ?_⟩, ?_⟩, ?_⟩, ?_⟩, ?_⟩, ?_⟩, ?_⟩, ?_⟩, ?_⟩, ?_⟩, ?_⟩, ?_⟩, ?_⟩, ?_⟩, ?_⟩, ?_⟩, ?_⟩, ?_⟩, ?_⟩, ?_⟩, ?_⟩, ?_⟩, ?_⟩, ?_⟩, ?_⟩, ?_⟩, ?_⟩, ?_⟩, ?_⟩, ?_⟩, ?_⟩, ?_⟩, ?_⟩, ?_⟩, ?_⟩, ?_⟩
                 · refine Owes.q 115 (fun u => [(4, .slice (some ⟨b1, o1, none⟩) en ec)]) fun u w' hI hR => ?_; dsimp only [frm, List.foldl, List.replicate, List.set]; clear hI hst hR; go_wp2; exact ⟨rfl, _, rfl, rfl, rfl⟩
                 · refine Owes.q 115 (fun u => [(10, .int .i64 (k : Int))]) fun u w' hI hR => ?_; dsimp only [frm, List.foldl, List.replicate, List.set]; clear hI hst hR; go_wp2; exact ⟨rfl, _, rfl, rfl, rfl⟩
                 · refine Owes.q 115 (fun u => [(67, u 0), (68, u 1)]) fun u w' hI hR => ?_; dsimp only [frm, List.foldl, List.replicate, List.set]; have e0 : u 0 = _ := hR 0 (by decide); have e1 : u 1 = _ := hR 1 (by decide); rw [e0, e1]; clear hI hst hR; go_wp2; exact ⟨rfl, _, rfl, rfl, rfl⟩
                 · refine Owes.q 115 (fun u => [(69, u 2)]) fun u w' hI hR => ?_; dsimp only [frm, List.foldl, List.replicate, List.set]; have e2 : u 2 = _ := hR 2 (by decide); rw [e2]; clear hI hst hR; go_wp2; exact ⟨rfl, _, rfl, rfl, rfl⟩
                 · refine Owes.q 115 (fun u => [(70, u 3)]) fun u w' hI hR => ?_; dsimp only [frm, List.foldl, List.replicate, List.set]; obtain ⟨_, hI⟩ := hI; have k0 := keep_cell hI p0; have e3 : u 3 = _ := hR 3 (by decide); rw [e3]; clear hI hst hR; go_wp2; exact ⟨rfl, _, rfl, rfl, rfl⟩
                 · refine Owes.q 115 (fun u => [(71, u 4)]) fun u w' hI hR => ?_; dsimp only [frm, List.foldl, List.replicate, List.set]; have e4 : u 4 = _ := hR 4 (by decide); rw [e4]; clear hI hst hR; go_wp2; exact ⟨rfl, _, rfl, rfl, rfl⟩
                 · refine Owes.q 115 (fun u => [(72, u 5)]) fun u w' hI hR => ?_; dsimp only [frm, List.foldl, List.replicate, List.set]; have e5 : u 5 = _ := hR 5 (by decide); rw [e5]; clear hI hst hR; go_wp2; exact ⟨rfl, _, rfl, rfl, rfl⟩
                 · refine Owes.qG 115 (fun u => [(9, .int .i64 (m : Int))]) fun u w' hI hR => ?_; dsimp only [frm, List.foldl, List.replicate, List.set]; clear hI hst hR; go_wp2; exact ⟨rfl, _, rfl, rfl, rfl⟩
                 · refine Owes.qG 115 (fun u => [(6, .slice (some ⟨b2, o2, none⟩) jn jc)]) fun u w' hI hR => ?_; dsimp only [frm, List.foldl, List.replicate, List.set]; clear hI hst hR; go_wp2; exact ⟨rfl, _, rfl, rfl, rfl⟩
                 · refine Owes.qG 115 (fun u => [(75, u 8)]) fun u w' hI hR => ?_; dsimp only [frm, List.foldl, List.replicate, List.set]; have e8 : u 8 = _ := hR 8 (by decide); rw [e8]; clear hI hst hR; go_wp2; exact ⟨rfl, _, rfl, rfl, rfl⟩
                 · refine Owes.qG 115 (fun u => [(74, u 7), (76, u 9)]) fun u w' hI hR => ?_; dsimp only [frm, List.foldl, List.replicate, List.set]; have e7 : u 7 = _ := hR 7 (by decide); have e9 : u 9 = _ := hR 9 (by decide); rw [e7, e9]; clear hI hst hR; go_wp2; exact ⟨rfl, _, rfl, rfl, rfl⟩
                 · refine Owes.q 115 (fun u => [(73, u 6), (77, u 10)]) fun u w' hI hR => ?_; dsimp only [frm, List.foldl, List.replicate, List.set]; have e6 : u 6 = _ := hR 6 (by decide); have e10 : u 10 = _ := hR 10 (by decide); rw [e6, e10]; clear hI hst hR; go_wp2; exact ⟨rfl, _, rfl, rfl, rfl⟩
                 · refine Owes.q 115 (fun u => [(78, u 11)]) fun u w' hI hR => ?_; dsimp only [frm, List.foldl, List.replicate, List.set]; have e11 : u 11 = _ := hR 11 (by decide); rw [e11]; clear hI hst hR; go_wp2; exact ⟨rfl, _, rfl, rfl, rfl⟩
                 · refine Owes.qG 115 (fun u => [(6, .slice (some ⟨b2, o2, none⟩) jn jc)]) fun u w' hI hR => ?_; dsimp only [frm, List.foldl, List.replicate, List.set]; clear hI hst hR; go_wp2; exact ⟨rfl, _, rfl, rfl, rfl⟩
                 · refine Owes.qG 115 (fun u => [(9, .int .i64 (m : Int))]) fun u w' hI hR => ?_; dsimp only [frm, List.foldl, List.replicate, List.set]; clear hI hst hR; go_wp2; exact ⟨rfl, _, rfl, rfl, rfl⟩
                 · refine Owes.qG 115 (fun u => [(80, u 13), (81, u 14)]) fun u w' hI hR => ?_; dsimp only [frm, List.foldl, List.replicate, List.set]; have e13 : u 13 = _ := hR 13 (by decide); have e14 : u 14 = _ := hR 14 (by decide); rw [e13, e14]; clear hI hst hR; go_wp2; exact ⟨rfl, _, rfl, rfl, rfl⟩
                 · refine Owes.qG 115 (fun u => [(82, u 15)]) fun u w' hI hR => ?_; dsimp only [frm, List.foldl, List.replicate, List.set]; have e15 : u 15 = _ := hR 15 (by decide); rw [e15]; clear hI hst hR; go_wp2; exact ⟨rfl, _, rfl, rfl, rfl⟩
                 · refine Owes.qG 115 (fun u => [(83, u 16)]) fun u w' hI hR => ?_; dsimp only [frm, List.foldl, List.replicate, List.set]; obtain ⟨_, hI⟩ := hI; have k3 := keep_cell hI q0; have e16 : u 16 = _ := hR 16 (by decide); rw [e16]; clear hI hst hR; go_wp2; exact ⟨rfl, _, rfl, rfl, rfl⟩
                 · refine Owes.qG 115 (fun u => [(4, .slice (some ⟨b1, o1, none⟩) en ec)]) fun u w' hI hR => ?_; dsimp only [frm, List.foldl, List.replicate, List.set]; clear hI hst hR; go_wp2; exact ⟨rfl, _, rfl, rfl, rfl⟩
                 · refine Owes.qG 115 (fun u => [(10, .int .i64 (k : Int))]) fun u w' hI hR => ?_; dsimp only [frm, List.foldl, List.replicate, List.set]; clear hI hst hR; go_wp2; exact ⟨rfl, _, rfl, rfl, rfl⟩
                 · refine Owes.qG 115 (fun u => [(85, u 18), (86, u 19)]) fun u w' hI hR => ?_; dsimp only [frm, List.foldl, List.replicate, List.set]; have e18 : u 18 = _ := hR 18 (by decide); have e19 : u 19 = _ := hR 19 (by decide); rw [e18, e19]; clear hI hst hR; go_wp2; exact ⟨rfl, _, rfl, rfl, rfl⟩
                 · refine Owes.qG 115 (fun u => [(87, u 20)]) fun u w' hI hR => ?_; dsimp only [frm, List.foldl, List.replicate, List.set]; have e20 : u 20 = _ := hR 20 (by decide); rw [e20]; clear hI hst hR; go_wp2; exact ⟨rfl, _, rfl, rfl, rfl⟩
                 · refine Owes.qG 115 (fun u => [(88, u 21)]) fun u w' hI hR => ?_; dsimp only [frm, List.foldl, List.replicate, List.set]; obtain ⟨_, hI⟩ := hI; have k1 := keep_cell hI p1; have e21 : u 21 = _ := hR 21 (by decide); rw [e21]; clear hI hst hR; go_wp2; exact ⟨rfl, _, rfl, rfl, rfl⟩
                 · refine Owes.qG 115 (fun u => [(84, u 17), (89, u 22)]) fun u w' hI hR => ?_; dsimp only [frm, List.foldl, List.replicate, List.set]; have e17 : u 17 = _ := hR 17 (by decide); have e22 : u 22 = _ := hR 22 (by decide); rw [e17, e22]; clear hI hst hR; go_wp2; exact ⟨rfl, _, rfl, rfl, rfl⟩
                 · refine Owes.q 115 (fun u => [(79, u 12), (90, u 23)]) fun u w' hI hR => ?_; dsimp only [frm, List.foldl, List.replicate, List.set]; have e12 : u 12 = _ := hR 12 (by decide); have e23 : u 23 = _ := hR 23 (by decide); rw [e12, e23]; clear hI hst hR; go_wp2; exact ⟨rfl, _, rfl, rfl, rfl⟩
                 · refine Owes.q 115 (fun u => [(91, u 24)]) fun u w' hI hR => ?_; dsimp only [frm, List.foldl, List.replicate, List.set]; have e24 : u 24 = _ := hR 24 (by decide); rw [e24]; clear hI hst hR; go_wp2; exact ⟨rfl, _, rfl, rfl, rfl⟩
                 · refine Owes.qG 115 (fun u => [(6, .slice (some ⟨b2, o2, none⟩) jn jc)]) fun u w' hI hR => ?_; dsimp only [frm, List.foldl, List.replicate, List.set]; clear hI hst hR; go_wp2; exact ⟨rfl, _, rfl, rfl, rfl⟩
                 · refine Owes.qG 115 (fun u => [(9, .int .i64 (m : Int))]) fun u w' hI hR => ?_; dsimp only [frm, List.foldl, List.replicate, List.set]; clear hI hst hR; go_wp2; exact ⟨rfl, _, rfl, rfl, rfl⟩
                 · refine Owes.qG 115 (fun u => [(93, u 26), (94, u 27)]) fun u w' hI hR => ?_; dsimp only [frm, List.foldl, List.replicate, List.set]; have e26 : u 26 = _ := hR 26 (by decide); have e27 : u 27 = _ := hR 27 (by decide); rw [e26, e27]; clear hI hst hR; go_wp2; exact ⟨rfl, _, rfl, rfl, rfl⟩
                 · refine Owes.qG 115 (fun u => [(95, u 28)]) fun u w' hI hR => ?_; dsimp only [frm, List.foldl, List.replicate, List.set]; have e28 : u 28 = _ := hR 28 (by decide); rw [e28]; clear hI hst hR; go_wp2; exact ⟨rfl, _, rfl, rfl, rfl⟩
                 · refine Owes.qG 115 (fun u => [(96, u 29)]) fun u w' hI hR => ?_; dsimp only [frm, List.foldl, List.replicate, List.set]; obtain ⟨_, hI⟩ := hI; have k4 := keep_cell hI q1; have e29 : u 29 = _ := hR 29 (by decide); rw [e29]; clear hI hst hR; go_wp2; exact ⟨rfl, _, rfl, rfl, rfl⟩
                 · refine Owes.qG 115 (fun u => [(4, .slice (some ⟨b1, o1, none⟩) en ec)]) fun u w' hI hR => ?_; dsimp only [frm, List.foldl, List.replicate, List.set]; clear hI hst hR; go_wp2; exact ⟨rfl, _, rfl, rfl, rfl⟩
                 · refine Owes.qG 115 (fun u => [(10, .int .i64 (k : Int))]) fun u w' hI hR => ?_; dsimp only [frm, List.foldl, List.replicate, List.set]; clear hI hst hR; go_wp2; exact ⟨rfl, _, rfl, rfl, rfl⟩
                 · refine Owes.qG 115 (fun u => [(98, u 31), (99, u 32)]) fun u w' hI hR => ?_; dsimp only [frm, List.foldl, List.replicate, List.set]; have e31 : u 31 = _ := hR 31 (by decide); have e32 : u 32 = _ := hR 32 (by decide); rw [e31, e32]; clear hI hst hR; go_wp2; exact ⟨rfl, _, rfl, rfl, rfl⟩
                 · refine Owes.qG 115 (fun u => [(100, u 33)]) fun u w' hI hR => ?_; dsimp only [frm, List.foldl, List.replicate, List.set]; have e33 : u 33 = _ := hR 33 (by decide); rw [e33]; clear hI hst hR; go_wp2; exact ⟨rfl, _, rfl, rfl, rfl⟩
                 · refine Owes.qG 115 (fun u => [(101, u 34)]) fun u w' hI hR => ?_; dsimp only [frm, List.foldl, List.replicate, List.set]; obtain ⟨_, hI⟩ := hI; have k2 := keep_cell hI p2; have e34 : u 34 = _ := hR 34 (by decide); rw [e34]; clear hI hst hR; go_wp2; exact ⟨rfl, _, rfl, rfl, rfl⟩
                 · refine Owes.mkG _ _ rfl rfl (fun _ _ h => by cases h) fun u m w' hm hI hR => ⟨⟨(frm 115 [(97, u 30), (102, u 35)]).toArray, []⟩, rfl, fun d hd => by cases hd; exact frm_lt (by decide), ?_⟩
                   dsimp only [frm, List.foldl, List.replicate, List.set]
                   have e30 : u 30 = _ := hR 30 (by decide)
                   have e35 : u 35 = _ := hR 35 (by decide)
                   have k0 := keep_cell hI p0
                   have k1 := keep_cell hI p1
                   have k2 := keep_cell hI p2
                   have k3 := keep_cell hI q0
                   have k4 := keep_cell hI q1
                   rw [e30, e35]
                   clear e30 e35
                   have HI := Lib.hid hI
                   clear hI hR hst
                   go_wp2
                   exact ⟨rfl, _, rfl, (congrArg Value.bool (beq_false_of_ne q2e) : _ = _), HI.out, fun _ _ h => h⟩
                 · refine Owes.q 115 (fun u => [(92, u 25), (103, u 36)]) fun u w' hI hR => ?_; dsimp only [frm, List.foldl, List.replicate, List.set]; have e25 : u 25 = _ := hR 25 (by decide); have e36 : u 36 = _ := hR 36 (by decide); rw [e25, e36]; clear hI hst hR; go_wp2; exact ⟨rfl, _, rfl, rfl, rfl⟩
                case hend =>
                 intro u w' hI hR
                 simp only [setAll, List.set_cons_zero, List.set_cons_succ]
                 unfold wpList
                 have e37 : u 37 = _ := hR 37 (by decide)
                 rw [e37]
                 have HBw := Lib.hid (HB.out.trans (hI.mono HB.out.size))
                 clear hR hI hst e37 p0 p1 p2 q0 q1
                 go_wp2
                 go_roundw
                 case rel => exact ⟨k + 1, m, by omega, by go_num, rfl, hm, Lib.hid (doneTo_stay x i1 HD.out (fun _ _ _ hn => absurd (show jm = nn from (by have h1 := HJM.out; simp only [HYES.out] at h1; rw [h1, hn, <- HEV.out])) q2e)), HBw.out⟩
                 case measure => simp [intOf]; omega
            · subst qk
              have hst : ∀ F, F ∈ [FEq (.slice (some ⟨b1, o1, none⟩) en ec), FEq (.int .i64 (k : Int)), FEq (.pointer (some ⟨b1, o1 + k * 3, none⟩)), FEq (.pointer (some ⟨b1, o1 + k * 3, none⟩)), FEq (.int .i64 2), FEq (.bool true), FEq (.bool true), FEq (.int .i64 (m : Int)), FEq (.slice (some ⟨b2, o2, none⟩) jn jc), FEq (.int .i64 (jn : Int)), FEq (.bool true), FEq (.bool true), FEq (.bool true), FEq (.slice (some ⟨b2, o2, none⟩) jn jc), FEq (.int .i64 (m : Int)), FEq (.pointer (some ⟨b2, o2 + m * 5, none⟩)), FEq (.pointer (some ⟨b2, o2 + m * 5, none⟩)), FEq (.int .i64 jw), FEq (.slice (some ⟨b1, o1, none⟩) en ec), FEq (.int .i64 (k : Int)), FEq (.pointer (some ⟨b1, o1 + k * 3, none⟩)), FEq (.pointer (some ⟨b1, o1 + k * 3 + 1, none⟩)), FEq (.int .i64 wh), FEq (.bool false), FEq (.bool false), FEq (.bool false), FEq undef, FEq undef, FEq undef, FEq undef, FEq undef, FEq undef, FEq undef, FEq undef, FEq undef, FEq undef, FEq undef, FEq (.bool false)] -> Stable [] F := by
               simp only [List.forall_mem_cons]
               exact ⟨stEq _ _, stEq _ _, stEq _ _, stEq _ _, stEq _ _, stEq _ _, stEq _ _, stEq _ _, stEq _ _, stEq _ _, stEq _ _, stEq _ _, stEq _ _, stEq _ _, stEq _ _, stEq _ _, stEq _ _, stEq _ _, stEq _ _, stEq _ _, stEq _ _, stEq _ _, stEq _ _, stEq _ _, stEq _ _, stEq _ _, stEq _ _, stEq _ _, stEq _ _, stEq _ _, stEq _ _, stEq _ _, stEq _ _, stEq _ _, stEq _ _, stEq _ _, stEq _ _, stEq _ _, fun _ h => by simp at h⟩
              refine wp_region_skip (by kernel_rfl) (fun i => (tbFnAtmOrder14 : List (List Nat)).getD i []) (facts [FEq (.slice (some ⟨b1, o1, none⟩) en ec), FEq (.int .i64 (k : Int)), FEq (.pointer (some ⟨b1, o1 + k * 3, none⟩)), FEq (.pointer (some ⟨b1, o1 + k * 3, none⟩)), FEq (.int .i64 2), FEq (.bool true), FEq (.bool true), FEq (.int .i64 (m : Int)), FEq (.slice (some ⟨b2, o2, none⟩) jn jc), FEq (.int .i64 (jn : Int)), FEq (.bool true), FEq (.bool true), FEq (.bool true), FEq (.slice (some ⟨b2, o2, none⟩) jn jc), FEq (.int .i64 (m : Int)), FEq (.pointer (some ⟨b2, o2 + m * 5, none⟩)), FEq (.pointer (some ⟨b2, o2 + m * 5, none⟩)), FEq (.int .i64 jw), FEq (.slice (some ⟨b1, o1, none⟩) en ec), FEq (.int .i64 (k : Int)), FEq (.pointer (some ⟨b1, o1 + k * 3, none⟩)), FEq (.pointer (some ⟨b1, o1 + k * 3 + 1, none⟩)), FEq (.int .i64 wh), FEq (.bool false), FEq (.bool false), FEq (.bool false), FEq undef, FEq undef, FEq undef, FEq undef, FEq undef, FEq undef, FEq undef, FEq undef, FEq undef, FEq undef, FEq undef, FEq (.bool false)]) (fun m w' => Below wr.heap.size wr w') 115 38 38 [some 67, some 68, some 69, some 70, some 71, some 72, some 73, some 74, some 75, some 76, some 77, some 78, some 79, some 80, some 81, some 82, some 83, some 84, some 85, some 86, some 87, some 88, some 89, some 90, some 91, some 92, some 93, some 94, some 95, some 96, some 97, some 98, some 99, some 100, some 101, some 102, some 103, some 104] [] rfl rfl (by decide) rfl rfl (by kernel_rfl) (by kernel_rfl) [26, 27, 28, 29, 30, 31, 32, 33, 34, 35, 36] [(12, true), (25, false), (6, true)] (by kernel_rfl) (fun g b hm v w h => by simp only [List.mem_cons, List.not_mem_nil, or_false, Prod.mk.injEq] at hm; rcases hm with ⟨rfl, rfl⟩ | ⟨rfl, rfl⟩ | ⟨rfl, rfl⟩ <;> exact h) (fun i hi w => by simp only [List.mem_cons, List.not_mem_nil, or_false] at hi; rcases hi with rfl | rfl | rfl | rfl | rfl | rfl | rfl | rfl | rfl | rfl | rfl <;> rfl) (fun _ _ h => h) ?h0 (all_lt (n := 38) ?hop) ?hend
              case h0 => exact (Below.refl _ _).drew
              case hop =>
               refine ⟨⟨⟨⟨⟨⟨⟨⟨⟨⟨⟨⟨⟨⟨⟨⟨⟨⟨⟨⟨⟨⟨⟨⟨⟨⟨⟨⟨⟨⟨⟨⟨⟨⟨⟨⟨⟨⟨trivial, ?_⟩, ?_⟩, ?_⟩, ?_⟩, ?_⟩, ?_⟩, ?_⟩, ?_⟩, ?_⟩, ?_⟩, ?_⟩, ?_⟩, ?_⟩, ?_⟩, ?_⟩, ?_⟩, ?_⟩, ?_⟩, ?_⟩, ?_⟩, ?_⟩, ?_⟩, ?_⟩, ?_⟩, ?_⟩, ?_⟩, ?_⟩, ?_⟩, ?_⟩, ?_⟩, ?_⟩, ?_⟩, ?_⟩, ?_⟩, ?_⟩, ?_⟩, ?_⟩, ?_⟩
               all_goals first | exact .inl (by decide) | skip
               · refine .inr (Owes.q 115 (fun u => [(4, .slice (some ⟨b1, o1, none⟩) en ec)]) fun u w' hI hR => ?_); dsimp only [frm, List.foldl, List.replicate, List.set]; clear hI hst hR; go_wp2; exact ⟨rfl, _, rfl, rfl, rfl⟩
               · refine .inr (Owes.q 115 (fun u => [(10, .int .i64 (k : Int))]) fun u w' hI hR => ?_); dsimp only [frm, List.foldl, List.replicate, List.set]; clear hI hst hR; go_wp2; exact ⟨rfl, _, rfl, rfl, rfl⟩
               · refine .inr (Owes.q 115 (fun u => [(67, u 0), (68, u 1)]) fun u w' hI hR => ?_); dsimp only [frm, List.foldl, List.replicate, List.set]; have e0 : u 0 = _ := hR 0 (by decide); have e1 : u 1 = _ := hR 1 (by decide); rw [e0, e1]; clear hI hst hR; go_wp2; exact ⟨rfl, _, rfl, rfl, rfl⟩
               · refine .inr (Owes.q 115 (fun u => [(69, u 2)]) fun u w' hI hR => ?_); dsimp only [frm, List.foldl, List.replicate, List.set]; have e2 : u 2 = _ := hR 2 (by decide); rw [e2]; clear hI hst hR; go_wp2; exact ⟨rfl, _, rfl, rfl, rfl⟩
               · refine .inr (Owes.q 115 (fun u => [(70, u 3)]) fun u w' hI hR => ?_); dsimp only [frm, List.foldl, List.replicate, List.set]; obtain ⟨_, hI⟩ := hI; have k0 := keep_cell hI p0; have e3 : u 3 = _ := hR 3 (by decide); rw [e3]; clear hI hst hR; go_wp2; exact ⟨rfl, _, rfl, rfl, rfl⟩
               · refine .inr (Owes.q 115 (fun u => [(71, u 4)]) fun u w' hI hR => ?_); dsimp only [frm, List.foldl, List.replicate, List.set]; have e4 : u 4 = _ := hR 4 (by decide); rw [e4]; clear hI hst hR; go_wp2; exact ⟨rfl, _, rfl, rfl, rfl⟩
               · refine .inr (Owes.q 115 (fun u => [(72, u 5)]) fun u w' hI hR => ?_); dsimp only [frm, List.foldl, List.replicate, List.set]; have e5 : u 5 = _ := hR 5 (by decide); rw [e5]; clear hI hst hR; go_wp2; exact ⟨rfl, _, rfl, rfl, rfl⟩
               · refine .inr (Owes.qG 115 (fun u => [(9, .int .i64 (m : Int))]) fun u w' hI hR => ?_); dsimp only [frm, List.foldl, List.replicate, List.set]; clear hI hst hR; go_wp2; exact ⟨rfl, _, rfl, rfl, rfl⟩
               · refine .inr (Owes.qG 115 (fun u => [(6, .slice (some ⟨b2, o2, none⟩) jn jc)]) fun u w' hI hR => ?_); dsimp only [frm, List.foldl, List.replicate, List.set]; clear hI hst hR; go_wp2; exact ⟨rfl, _, rfl, rfl, rfl⟩
               · refine .inr (Owes.qG 115 (fun u => [(75, u 8)]) fun u w' hI hR => ?_); dsimp only [frm, List.foldl, List.replicate, List.set]; have e8 : u 8 = _ := hR 8 (by decide); rw [e8]; clear hI hst hR; go_wp2; exact ⟨rfl, _, rfl, rfl, rfl⟩
               · refine .inr (Owes.qG 115 (fun u => [(74, u 7), (76, u 9)]) fun u w' hI hR => ?_); dsimp only [frm, List.foldl, List.replicate, List.set]; have e7 : u 7 = _ := hR 7 (by decide); have e9 : u 9 = _ := hR 9 (by decide); rw [e7, e9]; clear hI hst hR; go_wp2; exact ⟨rfl, _, rfl, rfl, rfl⟩
               · refine .inr (Owes.q 115 (fun u => [(73, u 6), (77, u 10)]) fun u w' hI hR => ?_); dsimp only [frm, List.foldl, List.replicate, List.set]; have e6 : u 6 = _ := hR 6 (by decide); have e10 : u 10 = _ := hR 10 (by decide); rw [e6, e10]; clear hI hst hR; go_wp2; exact ⟨rfl, _, rfl, rfl, rfl⟩
               · refine .inr (Owes.q 115 (fun u => [(78, u 11)]) fun u w' hI hR => ?_); dsimp only [frm, List.foldl, List.replicate, List.set]; have e11 : u 11 = _ := hR 11 (by decide); rw [e11]; clear hI hst hR; go_wp2; exact ⟨rfl, _, rfl, rfl, rfl⟩
               · refine .inr (Owes.qG 115 (fun u => [(6, .slice (some ⟨b2, o2, none⟩) jn jc)]) fun u w' hI hR => ?_); dsimp only [frm, List.foldl, List.replicate, List.set]; clear hI hst hR; go_wp2; exact ⟨rfl, _, rfl, rfl, rfl⟩
               · refine .inr (Owes.qG 115 (fun u => [(9, .int .i64 (m : Int))]) fun u w' hI hR => ?_); dsimp only [frm, List.foldl, List.replicate, List.set]; clear hI hst hR; go_wp2; exact ⟨rfl, _, rfl, rfl, rfl⟩
               · refine .inr (Owes.qG 115 (fun u => [(80, u 13), (81, u 14)]) fun u w' hI hR => ?_); dsimp only [frm, List.foldl, List.replicate, List.set]; have e13 : u 13 = _ := hR 13 (by decide); have e14 : u 14 = _ := hR 14 (by decide); rw [e13, e14]; clear hI hst hR; go_wp2; exact ⟨rfl, _, rfl, rfl, rfl⟩
               · refine .inr (Owes.qG 115 (fun u => [(82, u 15)]) fun u w' hI hR => ?_); dsimp only [frm, List.foldl, List.replicate, List.set]; have e15 : u 15 = _ := hR 15 (by decide); rw [e15]; clear hI hst hR; go_wp2; exact ⟨rfl, _, rfl, rfl, rfl⟩
               · refine .inr (Owes.qG 115 (fun u => [(83, u 16)]) fun u w' hI hR => ?_); dsimp only [frm, List.foldl, List.replicate, List.set]; obtain ⟨_, hI⟩ := hI; have k3 := keep_cell hI q0; have e16 : u 16 = _ := hR 16 (by decide); rw [e16]; clear hI hst hR; go_wp2; exact ⟨rfl, _, rfl, rfl, rfl⟩
               · refine .inr (Owes.qG 115 (fun u => [(4, .slice (some ⟨b1, o1, none⟩) en ec)]) fun u w' hI hR => ?_); dsimp only [frm, List.foldl, List.replicate, List.set]; clear hI hst hR; go_wp2; exact ⟨rfl, _, rfl, rfl, rfl⟩
               · refine .inr (Owes.qG 115 (fun u => [(10, .int .i64 (k : Int))]) fun u w' hI hR => ?_); dsimp only [frm, List.foldl, List.replicate, List.set]; clear hI hst hR; go_wp2; exact ⟨rfl, _, rfl, rfl, rfl⟩
               · refine .inr (Owes.qG 115 (fun u => [(85, u 18), (86, u 19)]) fun u w' hI hR => ?_); dsimp only [frm, List.foldl, List.replicate, List.set]; have e18 : u 18 = _ := hR 18 (by decide); have e19 : u 19 = _ := hR 19 (by decide); rw [e18, e19]; clear hI hst hR; go_wp2; exact ⟨rfl, _, rfl, rfl, rfl⟩
               · refine .inr (Owes.qG 115 (fun u => [(87, u 20)]) fun u w' hI hR => ?_); dsimp only [frm, List.foldl, List.replicate, List.set]; have e20 : u 20 = _ := hR 20 (by decide); rw [e20]; clear hI hst hR; go_wp2; exact ⟨rfl, _, rfl, rfl, rfl⟩
               · refine .inr (Owes.qG 115 (fun u => [(88, u 21)]) fun u w' hI hR => ?_); dsimp only [frm, List.foldl, List.replicate, List.set]; obtain ⟨_, hI⟩ := hI; have k1 := keep_cell hI p1; have e21 : u 21 = _ := hR 21 (by decide); rw [e21]; clear hI hst hR; go_wp2; exact ⟨rfl, _, rfl, rfl, rfl⟩
               · refine .inr (Owes.mkG _ _ rfl rfl (fun _ _ h => by cases h) fun u m w' hm hI hR => ⟨⟨(frm 115 [(84, u 17), (89, u 22)]).toArray, []⟩, rfl, fun d hd => by cases hd; exact frm_lt (by decide), ?_⟩)
                 dsimp only [frm, List.foldl, List.replicate, List.set]
                 have e17 : u 17 = _ := hR 17 (by decide)
                 have e22 : u 22 = _ := hR 22 (by decide)
                 have k0 := keep_cell hI p0
                 have k1 := keep_cell hI p1
                 have k2 := keep_cell hI p2
                 have k3 := keep_cell hI q0
                 have k4 := keep_cell hI q1
                 rw [e17, e22]
                 clear e17 e22
                 have HI := Lib.hid hI
                 clear hI hR hst
                 go_wp2
                 exact ⟨rfl, _, rfl, (congrArg Value.bool (beq_false_of_ne q1e) : _ = _), HI.out, fun _ _ h => h⟩
               · refine .inr (Owes.q 115 (fun u => [(79, u 12), (90, u 23)]) fun u w' hI hR => ?_); dsimp only [frm, List.foldl, List.replicate, List.set]; have e12 : u 12 = _ := hR 12 (by decide); have e23 : u 23 = _ := hR 23 (by decide); rw [e12, e23]; clear hI hst hR; go_wp2; exact ⟨rfl, _, rfl, rfl, rfl⟩
               · refine .inr (Owes.q 115 (fun u => [(91, u 24)]) fun u w' hI hR => ?_); dsimp only [frm, List.foldl, List.replicate, List.set]; have e24 : u 24 = _ := hR 24 (by decide); rw [e24]; clear hI hst hR; go_wp2; exact ⟨rfl, _, rfl, rfl, rfl⟩
               · refine .inr (Owes.q 115 (fun u => [(92, u 25), (103, u 36)]) fun u w' hI hR => ?_); dsimp only [frm, List.foldl, List.replicate, List.set]; have e25 : u 25 = _ := hR 25 (by decide); have e36 : u 36 = _ := hR 36 (by decide); rw [e25, e36]; clear hI hst hR; go_wp2; exact ⟨rfl, _, rfl, rfl, rfl⟩
              case hend =>
               intro u w' hI hR
               simp only [setAll, List.set_cons_zero, List.set_cons_succ]
               unfold wpList
               have e37 : u 37 = _ := hR 37 (by decide)
               rw [e37]
               have HBw := Lib.hid (HB.out.trans (hI.mono HB.out.size))
               clear hR hI hst e37 p0 p1 p2 q0 q1
               go_wp2
               go_roundw
               case rel => exact ⟨k + 1, m, by omega, by go_num, rfl, hm, Lib.hid (doneTo_stay x i1 HD.out (fun _ _ hw => absurd (show jw = wh from (by have h1 := HJW.out; simp only [HYES.out] at h1; rw [h1, hw, <- HEV.out])) q1e)), HBw.out⟩
               case measure => simp [intOf]; omega
          · have hmli : ¬ (m : Int) < (jn : Int) := by omega
            clear hb9
            subst qk
            have hst : ∀ F, F ∈ [FEq (.slice (some ⟨b1, o1, none⟩) en ec), FEq (.int .i64 (k : Int)), FEq (.pointer (some ⟨b1, o1 + k * 3, none⟩)), FEq (.pointer (some ⟨b1, o1 + k * 3, none⟩)), FEq (.int .i64 2), FEq (.bool true), FEq (.bool true), FEq (.int .i64 (m : Int)), FEq (.slice ja jn jc), FEq (.int .i64 (jn : Int)), FEq (.bool false), FEq (.bool false), FEq (.bool false), FEq undef, FEq undef, FEq undef, FEq undef, FEq undef, FEq undef, FEq undef, FEq undef, FEq undef, FEq undef, FEq undef, FEq (.bool false), FEq (.bool false), FEq undef, FEq undef, FEq undef, FEq undef, FEq undef, FEq undef, FEq undef, FEq undef, FEq undef, FEq undef, FEq undef, FEq (.bool false)] -> Stable [] F := by
             simp only [List.forall_mem_cons]
             exact ⟨stEq _ _, stEq _ _, stEq _ _, stEq _ _, stEq _ _, stEq _ _, stEq _ _, stEq _ _, stEq _ _, stEq _ _, stEq _ _, stEq _ _, stEq _ _, stEq _ _, stEq _ _, stEq _ _, stEq _ _, stEq _ _, stEq _ _, stEq _ _, stEq _ _, stEq _ _, stEq _ _, stEq _ _, stEq _ _, stEq _ _, stEq _ _, stEq _ _, stEq _ _, stEq _ _, stEq _ _, stEq _ _, stEq _ _, stEq _ _, stEq _ _, stEq _ _, stEq _ _, stEq _ _, fun _ h => by simp at h⟩
            refine wp_region_skip (by kernel_rfl) (fun i => (tbFnAtmOrder14 : List (List Nat)).getD i []) (facts [FEq (.slice (some ⟨b1, o1, none⟩) en ec), FEq (.int .i64 (k : Int)), FEq (.pointer (some ⟨b1, o1 + k * 3, none⟩)), FEq (.pointer (some ⟨b1, o1 + k * 3, none⟩)), FEq (.int .i64 2), FEq (.bool true), FEq (.bool true), FEq (.int .i64 (m : Int)), FEq (.slice ja jn jc), FEq (.int .i64 (jn : Int)), FEq (.bool false), FEq (.bool false), FEq (.bool false), FEq undef, FEq undef, FEq undef, FEq undef, FEq undef, FEq undef, FEq undef, FEq undef, FEq undef, FEq undef, FEq undef, FEq (.bool false), FEq (.bool false), FEq undef, FEq undef, FEq undef, FEq undef, FEq undef, FEq undef, FEq undef, FEq undef, FEq undef, FEq undef, FEq undef, FEq (.bool false)]) (fun m w' => Below wr.heap.size wr w') 115 38 38 [some 67, some 68, some 69, some 70, some 71, some 72, some 73, some 74, some 75, some 76, some 77, some 78, some 79, some 80, some 81, some 82, some 83, some 84, some 85, some 86, some 87, some 88, some 89, some 90, some 91, some 92, some 93, some 94, some 95, some 96, some 97, some 98, some 99, some 100, some 101, some 102, some 103, some 104] [] rfl rfl (by decide) rfl rfl (by kernel_rfl) (by kernel_rfl) [13, 14, 15, 16, 17, 18, 19, 20, 21, 22, 23, 26, 27, 28, 29, 30, 31, 32, 33, 34, 35, 36] [(12, false), (25, false), (6, true)] (by kernel_rfl) (fun g b hm v w h => by simp only [List.mem_cons, List.not_mem_nil, or_false, Prod.mk.injEq] at hm; rcases hm with ⟨rfl, rfl⟩ | ⟨rfl, rfl⟩ | ⟨rfl, rfl⟩ <;> exact h) (fun i hi w => by simp only [List.mem_cons, List.not_mem_nil, or_false] at hi; rcases hi with rfl | rfl | rfl | rfl | rfl | rfl | rfl | rfl | rfl | rfl | rfl | rfl | rfl | rfl | rfl | rfl | rfl | rfl | rfl | rfl | rfl | rfl <;> rfl) (fun _ _ h => h) ?h0 (all_lt (n := 38) ?hop) ?hend
            case h0 => exact (Below.refl _ _).drew
            case hop =>
             refine ⟨⟨⟨⟨⟨⟨⟨⟨⟨⟨⟨⟨⟨⟨⟨⟨⟨⟨⟨⟨⟨⟨⟨⟨⟨⟨⟨⟨⟨⟨⟨⟨⟨⟨⟨⟨⟨⟨trivial, ?_⟩, ?_⟩, ?_⟩, ?_⟩, ?_⟩, ?_⟩, ?_⟩, ?_⟩, ?_⟩, ?_⟩, ?_⟩, ?_⟩, ?_⟩, ?_⟩, ?_⟩, ?_⟩, ?_⟩, ?_⟩, ?_⟩, ?_⟩, ?_⟩, ?_⟩, ?_⟩, ?_⟩, ?_⟩, ?_⟩, ?_⟩, ?_⟩, ?_⟩, ?_⟩, ?_⟩, ?_⟩, ?_⟩, ?_⟩, ?_⟩, ?_⟩, ?_⟩, ?_⟩
             all_goals first | exact .inl (by decide) | skip
             · refine .inr (Owes.q 115 (fun u => [(4, .slice (some ⟨b1, o1, none⟩) en ec)]) fun u w' hI hR => ?_); dsimp only [frm, List.foldl, List.replicate, List.set]; clear hI hst hR; go_wp2; exact ⟨rfl, _, rfl, rfl, rfl⟩
             · refine .inr (Owes.q 115 (fun u => [(10, .int .i64 (k : Int))]) fun u w' hI hR => ?_); dsimp only [frm, List.foldl, List.replicate, List.set]; clear hI hst hR; go_wp2; exact ⟨rfl, _, rfl, rfl, rfl⟩
             · refine .inr (Owes.q 115 (fun u => [(67, u 0), (68, u 1)]) fun u w' hI hR => ?_); dsimp only [frm, List.foldl, List.replicate, List.set]; have e0 : u 0 = _ := hR 0 (by decide); have e1 : u 1 = _ := hR 1 (by decide); rw [e0, e1]; clear hI hst hR; go_wp2; exact ⟨rfl, _, rfl, rfl, rfl⟩
             · refine .inr (Owes.q 115 (fun u => [(69, u 2)]) fun u w' hI hR => ?_); dsimp only [frm, List.foldl, List.replicate, List.set]; have e2 : u 2 = _ := hR 2 (by decide); rw [e2]; clear hI hst hR; go_wp2; exact ⟨rfl, _, rfl, rfl, rfl⟩
             · refine .inr (Owes.q 115 (fun u => [(70, u 3)]) fun u w' hI hR => ?_); dsimp only [frm, List.foldl, List.replicate, List.set]; obtain ⟨_, hI⟩ := hI; have k0 := keep_cell hI p0; have e3 : u 3 = _ := hR 3 (by decide); rw [e3]; clear hI hst hR; go_wp2; exact ⟨rfl, _, rfl, rfl, rfl⟩
             · refine .inr (Owes.q 115 (fun u => [(71, u 4)]) fun u w' hI hR => ?_); dsimp only [frm, List.foldl, List.replicate, List.set]; have e4 : u 4 = _ := hR 4 (by decide); rw [e4]; clear hI hst hR; go_wp2; exact ⟨rfl, _, rfl, rfl, rfl⟩
             · refine .inr (Owes.q 115 (fun u => [(72, u 5)]) fun u w' hI hR => ?_); dsimp only [frm, List.foldl, List.replicate, List.set]; have e5 : u 5 = _ := hR 5 (by decide); rw [e5]; clear hI hst hR; go_wp2; exact ⟨rfl, _, rfl, rfl, rfl⟩
             · refine .inr (Owes.qG 115 (fun u => [(9, .int .i64 (m : Int))]) fun u w' hI hR => ?_); dsimp only [frm, List.foldl, List.replicate, List.set]; clear hI hst hR; go_wp2; exact ⟨rfl, _, rfl, rfl, rfl⟩
             · refine .inr (Owes.qG 115 (fun u => [(6, .slice ja jn jc)]) fun u w' hI hR => ?_); dsimp only [frm, List.foldl, List.replicate, List.set]; clear hI hst hR; go_wp2; exact ⟨rfl, _, rfl, rfl, rfl⟩
             · refine .inr (Owes.qG 115 (fun u => [(75, u 8)]) fun u w' hI hR => ?_); dsimp only [frm, List.foldl, List.replicate, List.set]; have e8 : u 8 = _ := hR 8 (by decide); rw [e8]; clear hI hst hR; go_wp2; exact ⟨rfl, _, rfl, rfl, rfl⟩
             · refine .inr (Owes.qG 115 (fun u => [(74, u 7), (76, u 9)]) fun u w' hI hR => ?_); dsimp only [frm, List.foldl, List.replicate, List.set]; have e7 : u 7 = _ := hR 7 (by decide); have e9 : u 9 = _ := hR 9 (by decide); rw [e7, e9]; clear hI hst hR; go_wp2; exact ⟨rfl, _, rfl, rfl, rfl⟩
             · refine .inr (Owes.q 115 (fun u => [(73, u 6), (77, u 10)]) fun u w' hI hR => ?_); dsimp only [frm, List.foldl, List.replicate, List.set]; have e6 : u 6 = _ := hR 6 (by decide); have e10 : u 10 = _ := hR 10 (by decide); rw [e6, e10]; clear hI hst hR; go_wp2; exact ⟨rfl, _, rfl, rfl, rfl⟩
             · refine .inr (Owes.q 115 (fun u => [(78, u 11)]) fun u w' hI hR => ?_); dsimp only [frm, List.foldl, List.replicate, List.set]; have e11 : u 11 = _ := hR 11 (by decide); rw [e11]; clear hI hst hR; go_wp2; exact ⟨rfl, _, rfl, rfl, rfl⟩
             · refine .inr (Owes.q 115 (fun u => [(79, u 12), (90, u 23)]) fun u w' hI hR => ?_); dsimp only [frm, List.foldl, List.replicate, List.set]; have e12 : u 12 = _ := hR 12 (by decide); have e23 : u 23 = _ := hR 23 (by decide); rw [e12, e23]; clear hI hst hR; go_wp2; exact ⟨rfl, _, rfl, rfl, rfl⟩
             · refine .inr (Owes.q 115 (fun u => [(91, u 24)]) fun u w' hI hR => ?_); dsimp only [frm, List.foldl, List.replicate, List.set]; have e24 : u 24 = _ := hR 24 (by decide); rw [e24]; clear hI hst hR; go_wp2; exact ⟨rfl, _, rfl, rfl, rfl⟩
             · refine .inr (Owes.q 115 (fun u => [(92, u 25), (103, u 36)]) fun u w' hI hR => ?_); dsimp only [frm, List.foldl, List.replicate, List.set]; have e25 : u 25 = _ := hR 25 (by decide); have e36 : u 36 = _ := hR 36 (by decide); rw [e25, e36]; clear hI hst hR; go_wp2; exact ⟨rfl, _, rfl, rfl, rfl⟩
            case hend =>
             intro u w' hI hR
             simp only [setAll, List.set_cons_zero, List.set_cons_succ]
             unfold wpList
             have e37 : u 37 = _ := hR 37 (by decide)
             rw [e37]
             have HBw := Lib.hid (HB.out.trans (hI.mono HB.out.size))
             clear hR hI hst e37 p0 p1 p2
             go_wp2
             go_roundw
             case rel => exact ⟨k + 1, m, by omega, by go_num, rfl, hm, Lib.hid (doneTo_stay x i1 HD.out (fun _ h => absurd (show m < jn from (by rw [<- HYES.out, HJN.out] at h; exact h)) (by omega))), HBw.out⟩
             case measure => simp [intOf]; omega
        · clear hb9
          have hst : ∀ F, F ∈ [FEq (.slice (some ⟨b1, o1, none⟩) en ec), FEq (.int .i64 (k : Int)), FEq (.pointer (some ⟨b1, o1 + k * 3, none⟩)), FEq (.pointer (some ⟨b1, o1 + k * 3, none⟩)), FEq (.int .i64 kd), FEq (.bool false), FEq (.bool false), FEq undef, FEq undef, FEq undef, FEq undef, FEq (.bool false), FEq (.bool false), FEq undef, FEq undef, FEq undef, FEq undef, FEq undef, FEq undef, FEq undef, FEq undef, FEq undef, FEq undef, FEq undef, FEq (.bool false), FEq (.bool false), FEq undef, FEq undef, FEq undef, FEq undef, FEq undef, FEq undef, FEq undef, FEq undef, FEq undef, FEq undef, FEq undef, FEq (.bool false)] -> Stable [] F := by
           simp only [List.forall_mem_cons]
           exact ⟨stEq _ _, stEq _ _, stEq _ _, stEq _ _, stEq _ _, stEq _ _, stEq _ _, stEq _ _, stEq _ _, stEq _ _, stEq _ _, stEq _ _, stEq _ _, stEq _ _, stEq _ _, stEq _ _, stEq _ _, stEq _ _, stEq _ _, stEq _ _, stEq _ _, stEq _ _, stEq _ _, stEq _ _, stEq _ _, stEq _ _, stEq _ _, stEq _ _, stEq _ _, stEq _ _, stEq _ _, stEq _ _, stEq _ _, stEq _ _, stEq _ _, stEq _ _, stEq _ _, stEq _ _, fun _ h => by simp at h⟩
          refine wp_region_skip (by kernel_rfl) (fun i => (tbFnAtmOrder14 : List (List Nat)).getD i []) (facts [FEq (.slice (some ⟨b1, o1, none⟩) en ec), FEq (.int .i64 (k : Int)), FEq (.pointer (some ⟨b1, o1 + k * 3, none⟩)), FEq (.pointer (some ⟨b1, o1 + k * 3, none⟩)), FEq (.int .i64 kd), FEq (.bool false), FEq (.bool false), FEq undef, FEq undef, FEq undef, FEq undef, FEq (.bool false), FEq (.bool false), FEq undef, FEq undef, FEq undef, FEq undef, FEq undef, FEq undef, FEq undef, FEq undef, FEq undef, FEq undef, FEq undef, FEq (.bool false), FEq (.bool false), FEq undef, FEq undef, FEq undef, FEq undef, FEq undef, FEq undef, FEq undef, FEq undef, FEq undef, FEq undef, FEq undef, FEq (.bool false)]) (fun m w' => Below wr.heap.size wr w') 115 38 38 [some 67, some 68, some 69, some 70, some 71, some 72, some 73, some 74, some 75, some 76, some 77, some 78, some 79, some 80, some 81, some 82, some 83, some 84, some 85, some 86, some 87, some 88, some 89, some 90, some 91, some 92, some 93, some 94, some 95, some 96, some 97, some 98, some 99, some 100, some 101, some 102, some 103, some 104] [] rfl rfl (by decide) rfl rfl (by kernel_rfl) (by kernel_rfl) [7, 8, 9, 10, 13, 14, 15, 16, 17, 18, 19, 20, 21, 22, 23, 26, 27, 28, 29, 30, 31, 32, 33, 34, 35, 36] [(12, false), (25, false), (6, false)] (by kernel_rfl) (fun g b hm v w h => by simp only [List.mem_cons, List.not_mem_nil, or_false, Prod.mk.injEq] at hm; rcases hm with ⟨rfl, rfl⟩ | ⟨rfl, rfl⟩ | ⟨rfl, rfl⟩ <;> exact h) (fun i hi w => by simp only [List.mem_cons, List.not_mem_nil, or_false] at hi; rcases hi with rfl | rfl | rfl | rfl | rfl | rfl | rfl | rfl | rfl | rfl | rfl | rfl | rfl | rfl | rfl | rfl | rfl | rfl | rfl | rfl | rfl | rfl | rfl | rfl | rfl | rfl <;> rfl) (fun _ _ h => h) ?h0 (all_lt (n := 38) ?hop) ?hend
          case h0 => exact (Below.refl _ _).drew
          case hop =>
           refine ⟨⟨⟨⟨⟨⟨⟨⟨⟨⟨⟨⟨⟨⟨⟨⟨⟨⟨⟨⟨⟨⟨⟨⟨⟨⟨⟨⟨⟨⟨⟨⟨⟨⟨⟨⟨⟨⟨trivial, ?_⟩, ?_⟩, ?_⟩, ?_⟩, ?_⟩, ?_⟩, ?_⟩, ?_⟩, ?_⟩, ?_⟩, ?_⟩, ?_⟩, ?_⟩, ?_⟩, ?_⟩, ?_⟩, ?_⟩, ?_⟩, ?_⟩, ?_⟩, ?_⟩, ?_⟩, ?_⟩, ?_⟩, ?_⟩, ?_⟩, ?_⟩, ?_⟩, ?_⟩, ?_⟩, ?_⟩, ?_⟩, ?_⟩, ?_⟩, ?_⟩, ?_⟩, ?_⟩, ?_⟩
           all_goals first | exact .inl (by decide) | skip
           · refine .inr (Owes.q 115 (fun u => [(4, .slice (some ⟨b1, o1, none⟩) en ec)]) fun u w' hI hR => ?_); dsimp only [frm, List.foldl, List.replicate, List.set]; clear hI hst hR; go_wp2; exact ⟨rfl, _, rfl, rfl, rfl⟩
           · refine .inr (Owes.q 115 (fun u => [(10, .int .i64 (k : Int))]) fun u w' hI hR => ?_); dsimp only [frm, List.foldl, List.replicate, List.set]; clear hI hst hR; go_wp2; exact ⟨rfl, _, rfl, rfl, rfl⟩
           · refine .inr (Owes.q 115 (fun u => [(67, u 0), (68, u 1)]) fun u w' hI hR => ?_); dsimp only [frm, List.foldl, List.replicate, List.set]; have e0 : u 0 = _ := hR 0 (by decide); have e1 : u 1 = _ := hR 1 (by decide); rw [e0, e1]; clear hI hst hR; go_wp2; exact ⟨rfl, _, rfl, rfl, rfl⟩
           · refine .inr (Owes.q 115 (fun u => [(69, u 2)]) fun u w' hI hR => ?_); dsimp only [frm, List.foldl, List.replicate, List.set]; have e2 : u 2 = _ := hR 2 (by decide); rw [e2]; clear hI hst hR; go_wp2; exact ⟨rfl, _, rfl, rfl, rfl⟩
           · refine .inr (Owes.q 115 (fun u => [(70, u 3)]) fun u w' hI hR => ?_); dsimp only [frm, List.foldl, List.replicate, List.set]; obtain ⟨_, hI⟩ := hI; have k0 := keep_cell hI p0; have e3 : u 3 = _ := hR 3 (by decide); rw [e3]; clear hI hst hR; go_wp2; exact ⟨rfl, _, rfl, rfl, rfl⟩
           · refine .inr (Owes.mk _ rfl rfl (fun _ _ h => by cases h) fun u m w' hm hI hR => ⟨⟨(frm 115 [(71, u 4)]).toArray, []⟩, rfl, fun d hd => by cases hd; exact frm_lt (by decide), ?_⟩)
             dsimp only [frm, List.foldl, List.replicate, List.set]
             have e4 : u 4 = _ := hR 4 (by decide)
             have k0 := keep_cell hI p0
             have k1 := keep_cell hI p1
             have k2 := keep_cell hI p2
             rw [e4]
             clear e4
             have HI := Lib.hid hI
             clear hI hR hst
             go_wp2
             exact ⟨rfl, _, rfl, (congrArg Value.bool (beq_false_of_ne qk) : _ = _), HI.out, fun _ _ h => h⟩
           · refine .inr (Owes.q 115 (fun u => [(72, u 5)]) fun u w' hI hR => ?_); dsimp only [frm, List.foldl, List.replicate, List.set]; have e5 : u 5 = _ := hR 5 (by decide); rw [e5]; clear hI hst hR; go_wp2; exact ⟨rfl, _, rfl, rfl, rfl⟩
           · refine .inr (Owes.q 115 (fun u => [(73, u 6), (77, u 10)]) fun u w' hI hR => ?_); dsimp only [frm, List.foldl, List.replicate, List.set]; have e6 : u 6 = _ := hR 6 (by decide); have e10 : u 10 = _ := hR 10 (by decide); rw [e6, e10]; clear hI hst hR; go_wp2; exact ⟨rfl, _, rfl, rfl, rfl⟩
           · refine .inr (Owes.q 115 (fun u => [(78, u 11)]) fun u w' hI hR => ?_); dsimp only [frm, List.foldl, List.replicate, List.set]; have e11 : u 11 = _ := hR 11 (by decide); rw [e11]; clear hI hst hR; go_wp2; exact ⟨rfl, _, rfl, rfl, rfl⟩
           · refine .inr (Owes.q 115 (fun u => [(79, u 12), (90, u 23)]) fun u w' hI hR => ?_); dsimp only [frm, List.foldl, List.replicate, List.set]; have e12 : u 12 = _ := hR 12 (by decide); have e23 : u 23 = _ := hR 23 (by decide); rw [e12, e23]; clear hI hst hR; go_wp2; exact ⟨rfl, _, rfl, rfl, rfl⟩
           · refine .inr (Owes.q 115 (fun u => [(91, u 24)]) fun u w' hI hR => ?_); dsimp only [frm, List.foldl, List.replicate, List.set]; have e24 : u 24 = _ := hR 24 (by decide); rw [e24]; clear hI hst hR; go_wp2; exact ⟨rfl, _, rfl, rfl, rfl⟩
           · refine .inr (Owes.q 115 (fun u => [(92, u 25), (103, u 36)]) fun u w' hI hR => ?_); dsimp only [frm, List.foldl, List.replicate, List.set]; have e25 : u 25 = _ := hR 25 (by decide); have e36 : u 36 = _ := hR 36 (by decide); rw [e25, e36]; clear hI hst hR; go_wp2; exact ⟨rfl, _, rfl, rfl, rfl⟩
          case hend =>
           intro u w' hI hR
           simp only [setAll, List.set_cons_zero, List.set_cons_succ]
           unfold wpList
           have e37 : u 37 = _ := hR 37 (by decide)
           rw [e37]
           have HBw := Lib.hid (HB.out.trans (hI.mono HB.out.size))
           clear hR hI hst e37 p0 p1 p2
           go_wp2
           go_roundw
           case rel => exact ⟨k + 1, m, by omega, by go_num, rfl, hm, Lib.hid (doneTo_stay x i1 HD.out (fun hk2 => absurd (show kd = 2 from (by rw [<- HEV.out] at hk2; exact hk2)) qk)), HBw.out⟩
           case measure => simp [intOf]; omega
      · obtain rfl : k = en := by omega
        have hall : doneTo x le k = jn := by rw [doneTo_all x le (by have := HLE.out; omega), <- HYES.out]; exact HJN.out
        obtain rfl : m = jn := by have := HD.out; omega
        have T0 := keep_cell hb9 S0
        have T1 := keep_cell hb9 S1
        have M0 := Lib.hid (SlR.below intR_fits K0.out hb9)
        have M1 := Lib.hid (SlR.below intR_fits K1.out hb9)
        have HBk := Lib.hid (HB.out.trans (hb9.mono HB.out.size))
        have HOK : Hid (atmOk R.1 = true) := Lib.hid (by
         have := (ordAll_ok Q0.out le le.length (Nat.le_refl _)).ok
         rw [List.take_of_length_le (Nat.le_refl _), <- HYES.out] at this
         exact this)
        clear hb9 hall HD S0 S1
        go_wp2_with fail
        refine (iAtmOk_any R.1 _ _ h0 h1 _ M0.out M1.out).mono ?_
        rw [HOK.out]
        rintro e w10 ⟨rfl, b10⟩
        have HBx := Lib.hid (HBk.out.trans (b10.mono HBk.out.size))
        clear b10
        go_wp2
        go_ret
        exact ⟨rfl, HBx.out⟩
   · have HNO : R = (⟨[], []⟩, []) := HR.out.trans (atmOrder_noI hok)
     obtain rfl : tn = 0 := by rw [<- HTN.out, HNO]; rfl
     obtain rfl : jn = 0 := by rw [<- HJN.out, HNO]; rfl
     clear HNO
     cases qb : busOk x
     · clear qb hok
       go_wp2_with fail
       refine (crOk_any _).mono ?_
       rintro e w10 ⟨rfl, rfl⟩
       go_wp2
       go_ret
       exact ⟨rfl, HB.out⟩
     · have hen8 : (en : Int) > 108 := by have := HLE.out; have : ¬ le.length <= 108 := fun h => hok ⟨qb, h⟩; omega
       clear qb hok
       go_wp2_with fail
       refine (crOk_any _).mono ?_
       rintro e w10 ⟨rfl, rfl⟩
       go_wp2
       go_ret
       exact ⟨rfl, HB.out⟩
namespace fnAtmOrder
set_option maxRecDepth 100000 in
theorem lifted (os : Os) (started : os.Started) (H : Type) (enc : TypeId × Value -> H) :
 ReturnsInHanded {} Try.checked os 10 .any (Rows.fnAtmOrderSpec.pre6 enc Try.prog Try.f10 Rows.fnAtmOrderRow.domain false) (Rows.fnAtmOrderSpec.post enc Try.prog Try.f10 false true false false) := by
 refine returnsInHanded_of_change (C := Try.checked) own started (by kernel_rfl) Try.func10
  (ChangeSpec.witness6 (enc := enc) (C := Try.checked) false ⟨#[], #[.slice none 0 0], []⟩ 8 (by kernel_rfl) (by kernel_rfl) (by kernel_rfl) (by kernel_rfl)) ?_
 intro W base args ds gs before hval0 hW hcnd _
 have hval : ∀ (j : Nat) t v, Try.f10.params[j]? = some t -> args[j]? = some v -> Value.okWide Try.prog W .any base t v := hval0
 have hW' := hW
 obtain ⟨p, q, hA0, hV, rfl, hfz, hnd⟩ := hW
 have hA : DataW.TrodAll enc Try.prog W 0 (fun _ => true) true Try.f10.params.toList args.toList ds p := hA0
 rw [Try.params10] at hA hval
 obtain ⟨v0, vs0, d0, ds0, p0, q0, hargs, rfl, rfl, h0, r0⟩ := trodAll_cons hA
 obtain ⟨rfl, rfl, rfl⟩ := trodAll_nil r0
 obtain rfl : args = #[v0] := by cases args; simp_all
 obtain ⟨rfl, rfl⟩ := trodVars_none hV
 clear hA0 hval0
 simp only [List.append_nil] at hW'
 have hlt0 : ∀ x ∈ p0, x.block < W.heap.size := fun x hx => by simpa using hW'.lt x (by simp [hx])
 have hk0 := h0
 obtain ⟨ad0, len0, cap0, rfl⟩ := okWide_slice Try.underlying22 (hval 0 22 v0 rfl rfl)
 obtain ⟨fuel0, hf0⟩ := h0
 obtain ⟨x0, fp0, y0, e0, g0⟩ := (opens_slice Try.underlying22 (by kernel_rfl) (by decide) (opens_byte Try.underlying5) byteR_fits) hf0
 obtain rfl : .slice ad0 len0 cap0 = y0 := by simpa [Value.cells] using e0
 refine (walk (.slice ad0 len0 cap0) x0 fp0 W g0).mono fun e W' ⟨he, hb⟩ => ?_
 subst he
 exact ⟨_, rfl, _, _, _, [], _, [], hW', (trodAll_cons_mk (shut_bool Try.underlying4 _) trodAll_mk0), (trodAll_cons_mk (Below.trod laidOut (by kernel_rfl) (of_decide_eq_true (by kernel_rfl)) hk0 hb hlt0) trodAll_mk0), rfl, hb.frame _, fun h => by cases h⟩
theorem over : Rows.fnAtmOrderRow.holds Try.pinned (OpenSpec.ofChange Rows.fnAtmOrderSpec) :=
 OpenClaim.holds_of_wide 10 Try.f10 rfl rfl rfl rfl rfl rfl rfl ⟨rfl, rfl, rfl, rfl, rfl⟩ rfl rfl rfl rfl rfl (by kernel_rfl) Try.func10 (by kernel_rfl)
  (of_decide_eq_true (by kernel_rfl)) (by unfold Func.isWrapper; first | (rw [if_pos (by decide +kernel)]; kernel_rfl) | (rw [if_neg (by decide +kernel)]; exact ⟨rfl, rfl⟩))
  (fun os started H enc _ => lifted os started H enc)
theorem proved : Rows.FnAtmOrderSaid :=
 over
#print axioms proved
end fnAtmOrder
end Go.Proofs.Ytmcjklicepaiaaa
