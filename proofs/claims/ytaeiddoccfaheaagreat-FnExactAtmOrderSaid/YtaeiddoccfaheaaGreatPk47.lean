/-
 Texts of this claim laid together: OrdA.
-/
import Derived.Test.YtaeiddoccfaheaaGreatPk46
set_option linter.unusedVariables false
set_option linter.unusedSimpArgs false
namespace Go.Proofs.YtaeiddoccfaheaaGreat
open Go.RowKit Go.ChangeShapes Go.WideShapes
def OrdRd (w : World) (R : Atm × List Job) (e : Ending) (w' : World) : Prop :=
 ∃ x0 x1 v f0 f1 f, e = .returned (.tuple #[.agg #[x0, x1], v]) ∧ SlR 1 intR w' R.1.mem x0 f0 ∧ SlR 1 intR w' R.1.holds x1 f1 ∧ SlR 5 jobR w' R.2 v f ∧ (∀ b, b ∈ f0 ++ f1 ++ f -> w.heap.size <= b) ∧ Below w.heap.size w w'
theorem atmOrder_no {c : Bus} {l : List Ev} (h : ¬ (busOk c = true ∧ l.length <= 108)) : atmOrder c l = (⟨[], []⟩, []) := if_neg h
theorem atmOrder_yes {c : Bus} {l : List Ev} (h : busOk c = true ∧ l.length <= 108) : atmOrder c l = ordAll c l := if_pos h
theorem sl_none {α : Type} {k : Nat} {R : Pr α} (w : World) : SlR k R w [] (.slice none 0 0) [] := ⟨none, 0, 0, rfl, rfl, Nat.le_refl _, Nat.zero_le _, .inl ⟨rfl, rfl⟩⟩
set_option maxRecDepth 100000 in
set_option maxHeartbeats 12800000 in
theorem sAtmOrder_any (c : Bus) (l : List Ev) (v0 v1 v2 ve : Value) (fp0 fp1 fp2 fe : List Nat) (w : World) (g0 : SlR 4 mrR w c.map v0 fp0) (g1 : SlR 1 intR w c.lat v1 fp1) (g2 : SlR 1 (slR 7 reqR) w c.progs v2 fp2) (ge : SlR 3 evR w l ve fe) :
 Calls Tryz.prog 6 #[.agg #[v0, v1, v2], ve] w (OrdRd w (atmOrder c l)) := by
 obtain ⟨a0, n0, c0, rfl⟩ := g0.form
 obtain ⟨a1, n1, c1, rfl⟩ := g1.form
 obtain ⟨a2, n2, c2, rfl⟩ := g2.form
 obtain ⟨i0, hi, hz0, hz1, hz2⟩ := info_parts info_jobs
 obtain ⟨w1, hw1⟩ : ∃ z, z = (w.alloc (.cells #[.slice a0 n0 c0, .slice a1 n1 c1, .slice a2 n2 c2] 40)).alloc (.cells #[.slice none 0 0, .slice none 0 0] 33) := ⟨_, rfl⟩
 have b1 : Below w.heap.size w w1 := by rw [hw1]; exact (below_alloc _ _).trans ((below_alloc _ _).mono (by simp))
 have z1 : w1.heap.size = w.heap.size + 1 + 1 := by rw [hw1]; simp
 have X0 : w1.cell? ⟨w.heap.size, 0, none⟩ = some (.slice a0 n0 c0) := by rw [hw1]; exact alloc_keep (alloc1_new _ _ _ 0 rfl) _
 have X1 : w1.cell? ⟨w.heap.size, 1, none⟩ = some (.slice a1 n1 c1) := by rw [hw1]; exact alloc_keep (alloc1_new _ _ _ 1 rfl) _
 have X2 : w1.cell? ⟨w.heap.size, 2, none⟩ = some (.slice a2 n2 c2) := by rw [hw1]; exact alloc_keep (alloc1_new _ _ _ 2 rfl) _
 have rA : RoomAt (w.heap.size + 1) 2 w1 := by rw [hw1]; exact room_alloc (by simp) (by simp)
 have y0 : w1.cell? ⟨w.heap.size + 1, 0, none⟩ = some (.slice none 0 0) := by rw [hw1]; exact alloc2_new _ _ _ _ _ 0 rfl
 have y1 : w1.cell? ⟨w.heap.size + 1, 1, none⟩ = some (.slice none 0 0) := by rw [hw1]; exact alloc2_new _ _ _ _ _ 1 rfl
 have G0 := Lib.hid (SlR.below mrR_fits g0 b1)
 have G1 := Lib.hid (SlR.below intR_fits g1 b1)
 have G2 := Lib.hid (SlR.below (slR_fits reqR_fits) g2 b1)
 have GE := Lib.hid (SlR.below evR_fits ge b1)
 have HB := Lib.hid b1
 have L0 : Hid (∀ b, b ∈ fp0 -> b < w.heap.size) := Lib.hid (g0.lt mrR_fits)
 have L2 : Hid (∀ b, b ∈ fp2 -> b < w.heap.size) := Lib.hid (g2.lt (slR_fits reqR_fits))
 have LE : Hid (∀ b, b ∈ fe -> b < w.heap.size) := Lib.hid (ge.lt evR_fits)
 have RA := Lib.hid rA
 obtain ⟨ae, ne, ce, rfl, hn, hcap, hmax, hcm, r⟩ := GE.out.opened
 clear g0 g1 g2 ge b1 rA r
 by_cases hok : busOk c = true ∧ l.length <= 108
 · have HR := Lib.hid (atmOrder_yes hok)
   obtain ⟨q0, q1⟩ := hok
   have hng : ¬ (ne : Int) > 108 := by have := hn.out; omega
   have Q0 := Lib.hid q0
   have Q1 := Lib.hid q1
   clear q0 q1
   go_enter Tryz.func6, Tryz.ntmps6
   go_upto_region 1 with fail
   rw [<- hw1]
   clear hw1
   go_upto_region 2 with fail
   have b2 := below_alloc w1 (.cells #[] 69)
   replace X0 := keep_cell b2 X0
   replace X1 := keep_cell b2 X1
   replace X2 := keep_cell b2 X2
   replace G0 := Lib.hid (SlR.below mrR_fits G0.out b2)
   replace G1 := Lib.hid (SlR.below intR_fits G1.out b2)
   replace G2 := Lib.hid (SlR.below (slR_fits reqR_fits) G2.out b2)
   replace GE := Lib.hid (SlR.below evR_fits GE.out b2)
   replace HB := Lib.hid (HB.out.trans (b2.mono HB.out.size))
   have rA2 := RA.out.below b2
   have HO : Hid (OwnE 5 jobR 69 w1.heap.size (w1.alloc (.cells #[] 69)) (.slice (some ⟨w1.heap.size, 0, none⟩) 0 0) []) := Lib.hid (OwnE.lit w1 (Nat.le_refl _))
   obtain ⟨w2, hw2⟩ : ∃ z, z = w1.alloc (.cells #[] 69) := ⟨_, rfl⟩
   have z2 : w2.heap.size = w.heap.size + 1 + 1 + 1 := by rw [hw2]; simp [z1]
   rw [<- hw2] at X0 X1 X2 G0 G1 G2 GE HB HO rA2
   replace RA := Lib.hid rA2
   rw [<- hw2]
   clear rA2 b2 hw2 y0 y1
   go_upto_region 4 with (go_at_call 23; refine (sBusOk_any c _ _ _ fp0 fp1 fp2 _ G0.out G1.out G2.out).mono ?_; rw [Q0.out]; rintro e w3 ⟨rfl, b⟩; replace G0 := Lib.hid (SlR.below mrR_fits G0.out b); replace G2 := Lib.hid (SlR.below (slR_fits reqR_fits) G2.out b); replace GE := Lib.hid (SlR.below evR_fits GE.out b); replace X0 := keep_cell b X0; replace X2 := keep_cell b X2; replace HO := Lib.hid (OwnE.below jobR_fits HO.out b); replace RA := Lib.hid (RA.out.below b); have HZ : Hid (w2.heap.size <= w3.heap.size) := Lib.hid b.size; have HZ3 : Hid (w2.heap.size <= w3.heap.size) := Lib.hid b.size; replace HB := Lib.hid (HB.out.trans (b.mono HB.out.size)); clear b)
   have hlb : w1.heap.size = w.heap.size + 1 + 1 := z1
   go_wp2_with fail
   refine (sAtmNew_any _).mono ?_
   rintro e w4 ⟨x0, d0, x1, d1, rfl, m0, m1, nw, b4⟩
   obtain ⟨xa, xn, xc, rfl⟩ := m0.form
   obtain ⟨ya, yn, yc, rfl⟩ := m1.form
   replace X0 := keep_cell b4 X0
   replace X2 := keep_cell b4 X2
   replace G0 := Lib.hid (SlR.below mrR_fits G0.out b4)
   replace G2 := Lib.hid (SlR.below (slR_fits reqR_fits) G2.out b4)
   replace GE := Lib.hid (SlR.below evR_fits GE.out b4)
   replace HO := Lib.hid (OwnE.below jobR_fits HO.out b4)
   replace RA := Lib.hid (RA.out.below b4)
   replace HZ := Lib.hid (Nat.le_trans HZ.out b4.size)
   replace HB := Lib.hid (HB.out.trans (b4.mono HB.out.size))
   have M0 := Lib.hid m0
   have M1 := Lib.hid m1
   have NW : Hid (∀ b, b ∈ d0 ++ d1 -> w2.heap.size <= b) := Lib.hid fun b hb => Nat.le_trans HZ3.out (nw.lo b hb)
   clear m0 m1 nw b4
   go_upto_region 5 with fail
   obtain ⟨w5, hw5⟩ : ∃ z, z = w4.alloc (.cells #[.slice xa xn xc, .slice ya yn yc] 33) := ⟨_, rfl⟩
   rw [<- hw5]
   have b5 : Below w4.heap.size w4 w5 := by rw [hw5]; exact below_alloc _ _
   have hz5 : w5.heap.size = w4.heap.size + 1 := by rw [hw5]; simp
   have h24 : w2.heap.size <= w4.heap.size := HZ.out
   have SI : SoI w5 w4.heap.size (w.heap.size + 1 + 1) (atmNew, []) (.slice (some ⟨w.heap.size + 1 + 1, 0, none⟩) 0 0) w5 := by
    obtain ⟨rows, fps, ho⟩ := OwnE.below jobR_fits HO.out b5
    rw [z1] at ho
    obtain rfl : fps = [] := List.eq_nil_of_length_eq_zero ho.lenf
    refine ⟨_, _, d0, d1, rows, [], Chg.refl _ _, by omega, by omega, by omega, by rw [hw5]; exact alloc1_new _ _ _ 0 rfl, by rw [hw5]; exact alloc1_new _ _ _ 1 rfl, fun o => by rw [hw5]; exact World.frozen?_alloc_at _ _ _ _ rfl, SlR.below intR_fits M0.out b5, SlR.below intR_fits M1.out b5, fun b hb => by have := NW.out b hb; omega, ho, fun g hg => .inl (by simp [Value.ownBlock] at hg; omega), fun b hb q => by have := NW.out b hb; simp [Value.ownBlock] at q; omega, by simp⟩
   replace X0 := keep_cell b5 X0
   replace X2 := keep_cell b5 X2
   replace G0 := Lib.hid (SlR.below mrR_fits G0.out b5)
   replace G2 := Lib.hid (SlR.below (slR_fits reqR_fits) G2.out b5)
   replace GE := Lib.hid (SlR.below evR_fits GE.out b5)
   replace RA := Lib.hid (RA.out.below b5)
   replace HB := Lib.hid (HB.out.trans (b5.mono HB.out.size))
   have HSI := Lib.hid SI
   have HZ5 := Lib.hid hz5
   have HZ4 := Lib.hid h24
   obtain ⟨sb, hsb⟩ : ∃ z, z = w4.heap.size := ⟨_, rfl⟩
   rw [<- hsb] at HSI HZ5 HZ4
   rw [<- hsb]
   clear SI hw5 b5 hz5 h24 HO M0 M1 NW X1 G1 hlb HZ hsb
   go_wp2_with fail
   go_loopw [6, 8] (fun v i wr => ∃ k : Nat, k <= ne ∧ i = .int .i64 (k : Int) ∧ SoI w5 sb (w.heap.size + 1 + 1) (ordAll c (l.take k)) v wr) (fun _ i _ => ne - (intOf i).toNat)
   case atStart => exact ⟨0, Nat.zero_le _, rfl, by rw [ordAll_zero]; exact HSI.out⟩
   case round =>
    obtain ⟨k, hk, rfl, hs⟩ := hrel
    have HS := Lib.hid hs
    clear hs
    by_cases hlt : k < ne
    · have hlti : (k : Int) < (ne : Int) := by omega
      have hcw := HS.out.ch
      have nlo : ∀ b, b < w.heap.size -> b ∉ [sb, w.heap.size + 1 + 1] := fun b hb hm => by have := HZ4.out; simp at hm; omega
      obtain ⟨_, _, _, ee, _, _, _, _, hr⟩ := (GE.out.chg evR_fits hcw (fun b hb => nlo b (LE.out b hb))).opened
      cases ee
      obtain ⟨i1, b1, o1, f1, cs, rfl, hb1, _, _, ⟨rfl, rfl⟩, e1⟩ := hr k hlt
      have c0_ := e1 0 (by simp)
      have c1_ := e1 1 (by simp)
      have c2_ := e1 2 (by simp)
      simp only [Nat.add_zero, List.getElem_cons_zero, List.getElem_cons_succ] at c0_ c1_ c2_
      have HCW := Lib.hid hcw
      have x2 := keep_cell_chg hcw X2 (by have := HZ4.out; simp; omega)
      have x0 := keep_cell_chg hcw X0 (by have := HZ4.out; simp; omega)
      have HG2 := Lib.hid (G2.out.chg (slR_fits reqR_fits) hcw (fun b hb => nlo b (L2.out b hb)))
      have HG0 := Lib.hid (G0.out.chg mrR_fits hcw (fun b hb => nlo b (L0.out b hb)))
      have HPL := Lib.hid (busOk_progs Q0.out)
      obtain ⟨ev, hev⟩ : ∃ z, z = l[k] := ⟨_, rfl⟩
      have HEV := Lib.hid hev
      rw [<- hev] at c0_ c1_ c2_
      obtain ⟨kd, wh, nn⟩ := ev
      dsimp only at c0_ c1_ c2_
      clear hr hcw nlo e1 hev hb1
      go_upto_region 9 with fail
      obtain ⟨w6, hw6⟩ : ∃ z, z = wr.alloc (.cells #[.int .i64 kd, .int .i64 wh, .int .i64 nn] 59) := ⟨_, rfl⟩
      rw [<- hw6]
      have b6 : Below wr.heap.size wr w6 := by rw [hw6]; exact below_alloc _ _
      have v0_ : w6.cell? ⟨wr.heap.size, 0, none⟩ = some (.int .i64 kd) := by rw [hw6]; exact alloc1_new _ _ _ 0 rfl
      have v1_ : w6.cell? ⟨wr.heap.size, 1, none⟩ = some (.int .i64 wh) := by rw [hw6]; exact alloc1_new _ _ _ 1 rfl
      have v2_ : w6.cell? ⟨wr.heap.size, 2, none⟩ = some (.int .i64 nn) := by rw [hw6]; exact alloc1_new _ _ _ 2 rfl
      replace x0 := keep_cell b6 x0
      replace x2 := keep_cell b6 x2
      replace HG0 := Lib.hid (SlR.below mrR_fits HG0.out b6)
      replace HG2 := Lib.hid (SlR.below (slR_fits reqR_fits) HG2.out b6)
      replace HS := Lib.hid (HS.out.below b6)
      have HZR : Hid (w5.heap.size <= wr.heap.size) := Lib.hid HCW.out.size
      obtain ⟨eb, heb⟩ : ∃ z, z = wr.heap.size := ⟨_, rfl⟩
      rw [<- heb] at v0_ v1_ v2_ HZR
      rw [<- heb]
      clear hw6 b6 heb c0_ c1_ c2_
      cases qk : (kd == 2)
      · have HNO : Hid (¬ (l[k].kind = 2 ∧ asksB c l[k].who l[k].n = true)) := Lib.hid (by rw [<- HEV.out]; rintro ⟨h, -⟩; have h : kd = 2 := h; simp [h] at qk)
        go_wp2_with fail
        go_quiet ((go_at_call 25; first | (refine Calls.quiet_of_same (l1In_v (x := true) ?_ _); with_reducible first | exact Q2.out | exact Q3.out) | (refine Calls.quiet_of_same (l1In_v (x := false) ?_ _); with_reducible first | exact Q2.out | exact Q3.out) | exact Calls.quiet_of_same (l1In_q _ _ _ _)))
        go_wp2
        go_roundw
        case rel => exact ⟨k + 1, by omega, by go_num, by rw [ordAll_succ c i1, ordStep_no HNO.out]; exact HS.out.below (below_drewN (Below.refl _ _) _)⟩
        case measure => simp [intOf]; omega
      · cases q1 : inB wh 0 2
        · have HNO : Hid (¬ (l[k].kind = 2 ∧ asksB c l[k].who l[k].n = true)) := Lib.hid (by rw [<- HEV.out]; rintro ⟨-, h⟩; have h : asksB c wh nn = true := h; rw [asks_no nn q1] at h; cases h)
          have Q2 := Lib.hid q1
          go_wp2_with fail
          go_quiet ((go_at_call 25; first | (refine Calls.quiet_of_same (l1In_v (x := true) ?_ _); with_reducible first | exact Q2.out | exact Q3.out) | (refine Calls.quiet_of_same (l1In_v (x := false) ?_ _); with_reducible first | exact Q2.out | exact Q3.out) | exact Calls.quiet_of_same (l1In_q _ _ _ _)))
          go_wp2
          go_roundw
          case rel => exact ⟨k + 1, by omega, by go_num, by rw [ordAll_succ c i1, ordStep_no HNO.out]; exact HS.out.below (below_drewN (Below.refl _ _) _)⟩
          case measure => simp [intOf]; omega
        · obtain ⟨hw0, hw2⟩ := inB_true.1 q1
          obtain ⟨i, rfl⟩ := Int.eq_ofNat_of_zero_le hw0
          have hi3 : i < c.progs.length := by have := HPL.out; omega
          obtain ⟨_, _, _, ee, hn2, _, _, _, hr⟩ := HG2.out.opened
          cases ee
          have hn3 : 3 = n2 := by rw [<- hn2.out, HPL.out]
          subst hn3
          obtain ⟨i2, b2, o2, f2, cs, rfl, hb2, _, _, ⟨y, rfl, hy⟩, e2⟩ := hr i (by omega)
          have d0_ := e2 0 (by simp)
          simp only [Nat.mul_one, Nat.add_zero, List.getElem_cons_zero] at d0_
          obtain ⟨a3, n3, c3, rfl, hn3, _, hm3, hcm3, r3⟩ := hy.opened
          have HA : Hid (asksB c (i : Int) nn = inB nn 0 ((n3 : Int) - 1)) := Lib.hid (by rw [asks_of nn HPL.out hi3, hn3.out])
          have hi3i : (i : Int) < 3 := by omega
          have hw_ : IntKind.i64.wrap ((n3 : Int) - 1) = (n3 : Int) - 1 := IntWalk.i64_in _ (by omega)
          have Q2 := Lib.hid q1
          cases q2 : inB nn 0 ((n3 : Int) - 1)
          · have HNO : Hid (¬ (l[k].kind = 2 ∧ asksB c l[k].who l[k].n = true)) := Lib.hid (by rw [<- HEV.out]; rintro ⟨-, h⟩; have h : asksB c (i : Int) nn = true := h; rw [HA.out, q2] at h; cases h)
            have Q3 := Lib.hid q2
            clear hr e2 hy r3
            go_wp2_with fail
            go_quiet ((go_at_call 25; first | (refine Calls.quiet_of_same (l1In_v (x := true) ?_ _); with_reducible first | exact Q2.out | exact Q3.out) | (refine Calls.quiet_of_same (l1In_v (x := false) ?_ _); with_reducible first | exact Q2.out | exact Q3.out) | exact Calls.quiet_of_same (l1In_q _ _ _ _)))
            go_wp2
            go_roundw
            case rel => exact ⟨k + 1, by omega, by go_num, by rw [ordAll_succ c i1, ordStep_no HNO.out]; exact HS.out.below (below_drewN (Below.refl _ _) _)⟩
            case measure => simp [intOf]; omega
          · have Q3 := Lib.hid q2
            obtain ⟨hm0, hm1⟩ := inB_true.1 q2
            obtain ⟨m, rfl⟩ := Int.eq_ofNat_of_zero_le hm0
            have hmn : m < n3 := by omega
            have hmni : (m : Int) < (n3 : Int) := by omega
            have him : m < c.progs[i].length := by rw [hn3.out]; exact hmn
            obtain ⟨i3, b3, o3, f3, cs, rfl, hb3, _, _, ⟨dv, lv, df, lf, rfl, rfl, hd, hlv⟩, e3⟩ := r3 m hmn
            obtain ⟨da, dn, dc, rfl⟩ := hd.form
            obtain ⟨la, ln, lc, rfl⟩ := hlv.form
            have q0_ := e3 0 (by simp)
            have q1_ := e3 1 (by simp)
            have q2_ := e3 2 (by simp)
            have q3_ := e3 3 (by simp)
            have q4_ := e3 4 (by simp)
            have q5_ := e3 5 (by simp)
            have q6_ := e3 6 (by simp)
            simp only [Nat.add_zero, List.getElem_cons_zero, List.getElem_cons_succ] at q0_ q1_ q2_ q3_ q4_ q5_ q6_
            have HROK : Hid (reqOk c.progs[i][m] = true) := Lib.hid (busOk_rq Q0.out hi3 him)
            have HYES : Hid (ordAll c (l.take (k + 1)) = ordDo c (ordAll c (l.take k)) ⟨kd, (i : Int), (m : Int)⟩ c.progs[i][m]) := Lib.hid (by rw [ordAll_succ c i1, <- HEV.out]; exact ordStep_yes ⟨by simpa using qk, by show asksB c (i : Int) (m : Int) = true; rw [HA.out]; exact q2⟩ hi3 him rfl rfl)
            obtain ⟨x, hx⟩ : ∃ z, z = c.progs[i][m] := ⟨_, rfl⟩
            rw [<- hx] at q0_ q1_ q2_ q3_ q4_ hd hlv HROK HYES
            have HOK : Hid (OrdOk (ordAll c (l.take k)) k) := Lib.hid (ordAll_ok Q0.out l k (by omega))
            obtain ⟨S, hS⟩ : ∃ z, z = ordAll c (l.take k) := ⟨_, rfl⟩
            rw [<- hS] at HOK HYES HS
            have HD := Lib.hid hd
            have HL := Lib.hid hlv
            clear hr e2 hy r3 e3 hd hlv hx hS q1 q2 hb2 hb3 hm0 hm1 hw0
            have HSA := Lib.hid (HS.out.store)
            obtain ⟨sa, sa', sn, sc, sn', sc', sf0, sf1, t0_, t1_, hg0, hg1⟩ := HSA.out
            have HM0 := Lib.hid hg0
            have HM1 := Lib.hid hg1
            clear hg0 hg1 HSA
            go_wp2_with fail
            go_quiet ((go_at_call 25; first | (refine Calls.quiet_of_same (l1In_v (x := true) ?_ _); with_reducible first | exact Q2.out | exact Q3.out) | (refine Calls.quiet_of_same (l1In_v (x := false) ?_ _); with_reducible first | exact Q2.out | exact Q3.out) | exact Calls.quiet_of_same (l1In_q _ _ _ _)))
            go_upto_region 10 with fail
            obtain ⟨w7, hw7⟩ : ∃ z, z = w6.drewN nq := ⟨_, rfl⟩
            rw [<- hw7]
            have b7 : Below w6.heap.size w6 w7 := by rw [hw7]; exact below_drewN (Below.refl _ _) _
            replace x0 := keep_cell b7 x0
            replace x2 := keep_cell b7 x2
            replace v1_ := keep_cell b7 v1_
            replace v2_ := keep_cell b7 v2_
            replace d0_ := keep_cell b7 d0_
            replace t0_ := keep_cell b7 t0_
            replace t1_ := keep_cell b7 t1_
            replace q0_ := keep_cell b7 q0_
            replace q1_ := keep_cell b7 q1_
            replace q2_ := keep_cell b7 q2_
            replace q3_ := keep_cell b7 q3_
            replace q4_ := keep_cell b7 q4_
            replace q5_ := keep_cell b7 q5_
            replace q6_ := keep_cell b7 q6_
            replace HG0 := Lib.hid (SlR.below mrR_fits HG0.out b7)
            replace HM0 := Lib.hid (SlR.below intR_fits HM0.out b7)
            replace HM1 := Lib.hid (SlR.below intR_fits HM1.out b7)
            replace HD := Lib.hid (SlR.below intR_fits HD.out b7)
            replace HL := Lib.hid (SlR.below intR_fits HL.out b7)
            replace HS := Lib.hid (HS.out.below b7)
            have HZ7 : Hid (eb < w7.heap.size) := Lib.hid (block_of_cell v1_)
            clear hw7 b7 v0_
            have hk : ∀ (wa wb : World) (j_ : Nat) (y_ : Value), facts [FEq (.pointer (some ⟨w.heap.size, 0, none⟩)), FEq (.slice a0 n0 c0), FEq (.agg #[.slice sa sn sc, .slice sa' sn' sc']), FEq (.pointer (some ⟨eb, 1, none⟩)), FEq (.int .i64 (i : Int)), FEq (.pointer (some ⟨w.heap.size, 2, none⟩)), FEq (.slice (some ⟨b2, o2, none⟩) 3 c2), FEq (.pointer (some ⟨eb, 1, none⟩)), FEq (.int .i64 (i : Int)), FEq (.pointer (some ⟨b2, o2 + i, none⟩)), FEq (.slice (some ⟨b3, o3, none⟩) n3 c3), FEq (.pointer (some ⟨eb, 2, none⟩)), FEq (.int .i64 (m : Int)), FEq (.pointer (some ⟨b3, o3 + m * 7, none⟩)), FEq (.agg #[.int .i64 x.id, .int .i64 x.kind, .int .i64 x.addr, .int .i64 x.many, .bool x.wrap, .slice da dn dc, .slice la ln lc]), FAny, FAny, FAny, FAny, FAny, FAny, FAny] j_ y_ wa -> facts [FEq (.pointer (some ⟨w.heap.size, 0, none⟩)), FEq (.slice a0 n0 c0), FEq (.agg #[.slice sa sn sc, .slice sa' sn' sc']), FEq (.pointer (some ⟨eb, 1, none⟩)), FEq (.int .i64 (i : Int)), FEq (.pointer (some ⟨w.heap.size, 2, none⟩)), FEq (.slice (some ⟨b2, o2, none⟩) 3 c2), FEq (.pointer (some ⟨eb, 1, none⟩)), FEq (.int .i64 (i : Int)), FEq (.pointer (some ⟨b2, o2 + i, none⟩)), FEq (.slice (some ⟨b3, o3, none⟩) n3 c3), FEq (.pointer (some ⟨eb, 2, none⟩)), FEq (.int .i64 (m : Int)), FEq (.pointer (some ⟨b3, o3 + m * 7, none⟩)), FEq (.agg #[.int .i64 x.id, .int .i64 x.kind, .int .i64 x.addr, .int .i64 x.many, .bool x.wrap, .slice da dn dc, .slice la ln lc]), FAny, FAny, FAny, FAny, FAny, FAny, FAny] j_ y_ wb := fun wa wb j_ y_ h => by
             rcases j_ with _ | _ | _ | _ | _ | _ | _ | _ | _ | _ | _ | _ | _ | _ | _ | _ | _ | _ | _ | _ | _ | _ | j_ <;> exact h
            refine wp_region_tail7 (by kernel_rfl) (fun i => ([[], [0], [], [], [3], [], [5], [], [7], [5, 6, 7, 8], [5, 6, 7, 8, 9], [], [11], [5, 6, 7, 8, 9, 10, 11, 12], [5, 6, 7, 8, 9, 10, 11, 12, 13], [0, 1, 2, 3, 4, 5, 6, 7, 8, 9, 10, 11, 12, 13, 14], [0, 1, 2, 3, 4, 5, 6, 7, 8, 9, 10, 11, 12, 13, 14, 15], [0, 1, 2, 3, 4, 5, 6, 7, 8, 9, 10, 11, 12, 13, 14, 15, 16], [0, 1, 2, 3, 4, 5, 6, 7, 8, 9, 10, 11, 12, 13, 14, 15, 16], [], [], [0, 1, 2, 3, 4, 5, 6, 7, 8, 9, 10, 11, 12, 13, 14, 15, 16, 17, 19, 20], [0, 1, 2, 3, 4, 5, 6, 7, 8, 9, 10, 11, 12, 13, 14, 15, 16, 17, 18, 19, 20, 21]] : List (List Nat)).getD i []) (facts [FEq (.pointer (some ⟨w.heap.size, 0, none⟩)), FEq (.slice a0 n0 c0), FEq (.agg #[.slice sa sn sc, .slice sa' sn' sc']), FEq (.pointer (some ⟨eb, 1, none⟩)), FEq (.int .i64 (i : Int)), FEq (.pointer (some ⟨w.heap.size, 2, none⟩)), FEq (.slice (some ⟨b2, o2, none⟩) 3 c2), FEq (.pointer (some ⟨eb, 1, none⟩)), FEq (.int .i64 (i : Int)), FEq (.pointer (some ⟨b2, o2 + i, none⟩)), FEq (.slice (some ⟨b3, o3, none⟩) n3 c3), FEq (.pointer (some ⟨eb, 2, none⟩)), FEq (.int .i64 (m : Int)), FEq (.pointer (some ⟨b3, o3 + m * 7, none⟩)), FEq (.agg #[.int .i64 x.id, .int .i64 x.kind, .int .i64 x.addr, .int .i64 x.many, .bool x.wrap, .slice da dn dc, .slice la ln lc]), FAny, FAny, FAny, FAny, FAny, FAny, FAny]) (fun ls u n_ w' => TupI w7 [] [] x.id (atmDo c.map S.1.mem S.1.holds (i : Int) x) ⟨ls 15, ls 15, ls 16, ls 17, ls 18, ls 19, ls 20, ls 21, u 15, u 15, u 16, u 17, u 18, u 19, u 20⟩ w') 86 23 22 [some 56, some 57, some 58, some 59, some 60, some 61, some 62, some 63, some 64, some 65, some 66, some 67, some 68, some 69, some 70, some 71, some 55, some 72, some 73, some 10, some 11, none] _ rfl rfl (by decide) rfl rfl (by kernel_rfl) (by kernel_rfl) [] (by kernel_rfl) (fun g b hm v w h => by simp at hm) ?h0 (all_lt (n := 22) ?hop) ?hend
            case h0 => exact fun ls u hl => TupI.start (hl 15) (hl 15) (hl 16) (hl 17) (hl 18) (hl 19) (hl 20) (hl 21)
            case hop =>
             refine ⟨⟨⟨⟨⟨⟨⟨⟨⟨⟨⟨⟨⟨⟨⟨⟨⟨⟨⟨⟨⟨⟨trivial, ?_⟩, ?_⟩, ?_⟩, ?_⟩, ?_⟩, ?_⟩, ?_⟩, ?_⟩, ?_⟩, ?_⟩, ?_⟩, ?_⟩, ?_⟩, ?_⟩, ?_⟩, ?_⟩, ?_⟩, ?_⟩, ?_⟩, ?_⟩, ?_⟩, ?_⟩
             · refine Owes7.mk _ rfl rfl (fun _ _ h => by cases h) fun u n_ w' hm ls hI hli hld hlT hR => ⟨⟨(frm 86 [(2, .pointer (some ⟨w.heap.size, 0, none⟩))]).toArray, []⟩, rfl, fun d hd => by cases hd; exact frm_lt (by decide), ?_⟩
               dsimp only [frm, List.foldl, List.replicate, List.set]
               have HI := Lib.hid hI
               clear hI hR hld hlT
               go_wp2
               exact ⟨rfl, _, rfl, rfl, HI.out, fun j_ y_ _ _ hx => hk _ _ j_ y_ hx⟩
             · refine Owes7.mk _ rfl rfl (fun _ _ h => by cases h) fun u n_ w' hm ls hI hli hld hlT hR => ⟨⟨(frm 86 [(56, u 0)]).toArray, []⟩, rfl, fun d hd => by cases hd; exact frm_lt (by decide), ?_⟩
               dsimp only [frm, List.foldl, List.replicate, List.set]
               have z_x0 := keep_cell hI.bel x0
               have ev0 : u 0 = _ := hR 0 (by decide)
               rw [ev0]
               have HI := Lib.hid hI
               clear hI hR hld hlT ev0
               go_wp2
               exact ⟨rfl, _, rfl, rfl, HI.out, fun j_ y_ _ _ hx => hk _ _ j_ y_ hx⟩
             · refine Owes7.mk _ rfl rfl (fun _ _ h => by cases h) fun u n_ w' hm ls hI hli hld hlT hR => ⟨⟨(frm 86 [(7, .pointer (some ⟨sb, 0, none⟩))]).toArray, []⟩, rfl, fun d hd => by cases hd; exact frm_lt (by decide), ?_⟩
               dsimp only [frm, List.foldl, List.replicate, List.set]
               have z_t0_ := keep_cell hI.bel t0_
               have z_t1_ := keep_cell hI.bel t1_
               have HI := Lib.hid hI
               clear hI hR hld hlT
               go_wp2
               exact ⟨rfl, _, rfl, rfl, HI.out, fun j_ y_ _ _ hx => hk _ _ j_ y_ hx⟩
             · refine Owes7.mk _ rfl rfl (fun _ _ h => by cases h) fun u n_ w' hm ls hI hli hld hlT hR => ⟨⟨(frm 86 [(9, .pointer (some ⟨eb, 0, none⟩))]).toArray, []⟩, rfl, fun d hd => by cases hd; exact frm_lt (by decide), ?_⟩
               dsimp only [frm, List.foldl, List.replicate, List.set]
               have HI := Lib.hid hI
               clear hI hR hld hlT
               go_wp2
               exact ⟨rfl, _, rfl, rfl, HI.out, fun j_ y_ _ _ hx => hk _ _ j_ y_ hx⟩
             · refine Owes7.mk _ rfl rfl (fun _ _ h => by cases h) fun u n_ w' hm ls hI hli hld hlT hR => ⟨⟨(frm 86 [(59, u 3)]).toArray, []⟩, rfl, fun d hd => by cases hd; exact frm_lt (by decide), ?_⟩
               dsimp only [frm, List.foldl, List.replicate, List.set]
               have z_v1_ := keep_cell hI.bel v1_
               have ev3 : u 3 = _ := hR 3 (by decide)
               rw [ev3]
               have HI := Lib.hid hI
               clear hI hR hld hlT ev3
               go_wp2
               exact ⟨rfl, _, rfl, rfl, HI.out, fun j_ y_ _ _ hx => hk _ _ j_ y_ hx⟩
             · refine Owes7.mk _ rfl rfl (fun _ _ h => by cases h) fun u n_ w' hm ls hI hli hld hlT hR => ⟨⟨(frm 86 [(2, .pointer (some ⟨w.heap.size, 0, none⟩))]).toArray, []⟩, rfl, fun d hd => by cases hd; exact frm_lt (by decide), ?_⟩
               dsimp only [frm, List.foldl, List.replicate, List.set]
               have HI := Lib.hid hI
               clear hI hR hld hlT
               go_wp2
               exact ⟨rfl, _, rfl, rfl, HI.out, fun j_ y_ _ _ hx => hk _ _ j_ y_ hx⟩
             · refine Owes7.mk _ rfl rfl (fun _ _ h => by cases h) fun u n_ w' hm ls hI hli hld hlT hR => ⟨⟨(frm 86 [(61, u 5)]).toArray, []⟩, rfl, fun d hd => by cases hd; exact frm_lt (by decide), ?_⟩
               dsimp only [frm, List.foldl, List.replicate, List.set]
               have z_x2 := keep_cell hI.bel x2
               have ev5 : u 5 = _ := hR 5 (by decide)
               rw [ev5]
               have HI := Lib.hid hI
               clear hI hR hld hlT ev5
               go_wp2
               exact ⟨rfl, _, rfl, rfl, HI.out, fun j_ y_ _ _ hx => hk _ _ j_ y_ hx⟩
             · refine Owes7.mk _ rfl rfl (fun _ _ h => by cases h) fun u n_ w' hm ls hI hli hld hlT hR => ⟨⟨(frm 86 [(9, .pointer (some ⟨eb, 0, none⟩))]).toArray, []⟩, rfl, fun d hd => by cases hd; exact frm_lt (by decide), ?_⟩
               dsimp only [frm, List.foldl, List.replicate, List.set]
               have HI := Lib.hid hI
               clear hI hR hld hlT
               go_wp2
               exact ⟨rfl, _, rfl, rfl, HI.out, fun j_ y_ _ _ hx => hk _ _ j_ y_ hx⟩
             · refine Owes7.mk _ rfl rfl (fun _ _ h => by cases h) fun u n_ w' hm ls hI hli hld hlT hR => ⟨⟨(frm 86 [(63, u 7)]).toArray, []⟩, rfl, fun d hd => by cases hd; exact frm_lt (by decide), ?_⟩
               dsimp only [frm, List.foldl, List.replicate, List.set]
               have z_v1_ := keep_cell hI.bel v1_
               have ev7 : u 7 = _ := hR 7 (by decide)
               rw [ev7]
               have HI := Lib.hid hI
               clear hI hR hld hlT ev7
               go_wp2
               exact ⟨rfl, _, rfl, rfl, HI.out, fun j_ y_ _ _ hx => hk _ _ j_ y_ hx⟩
             · refine Owes7.mk _ rfl rfl (fun _ _ h => by cases h) fun u n_ w' hm ls hI hli hld hlT hR => ⟨⟨(frm 86 [(62, u 6), (64, u 8)]).toArray, []⟩, rfl, fun d hd => by cases hd; exact frm_lt (by decide), ?_⟩
               dsimp only [frm, List.foldl, List.replicate, List.set]
               have ev6 : u 6 = _ := hR 6 (by decide)
               have ev8 : u 8 = _ := hR 8 (by decide)
               rw [ev6, ev8]
               have HI := Lib.hid hI
               clear hI hR hld hlT ev6 ev8
               go_wp2
               exact ⟨rfl, _, rfl, rfl, HI.out, fun j_ y_ _ _ hx => hk _ _ j_ y_ hx⟩
             · refine Owes7.mk _ rfl rfl (fun _ _ h => by cases h) fun u n_ w' hm ls hI hli hld hlT hR => ⟨⟨(frm 86 [(65, u 9)]).toArray, []⟩, rfl, fun d hd => by cases hd; exact frm_lt (by decide), ?_⟩
               dsimp only [frm, List.foldl, List.replicate, List.set]
               have z_d0_ := keep_cell hI.bel d0_
               have ev9 : u 9 = _ := hR 9 (by decide)
               rw [ev9]
               have HI := Lib.hid hI
               clear hI hR hld hlT ev9
               go_wp2
               exact ⟨rfl, _, rfl, rfl, HI.out, fun j_ y_ _ _ hx => hk _ _ j_ y_ hx⟩
             · refine Owes7.mk _ rfl rfl (fun _ _ h => by cases h) fun u n_ w' hm ls hI hli hld hlT hR => ⟨⟨(frm 86 [(9, .pointer (some ⟨eb, 0, none⟩))]).toArray, []⟩, rfl, fun d hd => by cases hd; exact frm_lt (by decide), ?_⟩
               dsimp only [frm, List.foldl, List.replicate, List.set]
               have HI := Lib.hid hI
               clear hI hR hld hlT
               go_wp2
               exact ⟨rfl, _, rfl, rfl, HI.out, fun j_ y_ _ _ hx => hk _ _ j_ y_ hx⟩
             · refine Owes7.mk _ rfl rfl (fun _ _ h => by cases h) fun u n_ w' hm ls hI hli hld hlT hR => ⟨⟨(frm 86 [(67, u 11)]).toArray, []⟩, rfl, fun d hd => by cases hd; exact frm_lt (by decide), ?_⟩
               dsimp only [frm, List.foldl, List.replicate, List.set]
               have z_v2_ := keep_cell hI.bel v2_
               have ev11 : u 11 = _ := hR 11 (by decide)
               rw [ev11]
               have HI := Lib.hid hI
               clear hI hR hld hlT ev11
               go_wp2
               exact ⟨rfl, _, rfl, rfl, HI.out, fun j_ y_ _ _ hx => hk _ _ j_ y_ hx⟩
             · refine Owes7.mk _ rfl rfl (fun _ _ h => by cases h) fun u n_ w' hm ls hI hli hld hlT hR => ⟨⟨(frm 86 [(66, u 10), (68, u 12)]).toArray, []⟩, rfl, fun d hd => by cases hd; exact frm_lt (by decide), ?_⟩
               dsimp only [frm, List.foldl, List.replicate, List.set]
               have ev10 : u 10 = _ := hR 10 (by decide)
               have ev12 : u 12 = _ := hR 12 (by decide)
               rw [ev10, ev12]
               have HI := Lib.hid hI
               clear hI hR hld hlT ev10 ev12
               go_wp2
               exact ⟨rfl, _, rfl, rfl, HI.out, fun j_ y_ _ _ hx => hk _ _ j_ y_ hx⟩
             · refine Owes7.mk _ rfl rfl (fun _ _ h => by cases h) fun u n_ w' hm ls hI hli hld hlT hR => ⟨⟨(frm 86 [(69, u 13)]).toArray, []⟩, rfl, fun d hd => by cases hd; exact frm_lt (by decide), ?_⟩
               dsimp only [frm, List.foldl, List.replicate, List.set]
               have z_q0_ := keep_cell hI.bel q0_
               have z_q1_ := keep_cell hI.bel q1_
               have z_q2_ := keep_cell hI.bel q2_
               have z_q3_ := keep_cell hI.bel q3_
               have z_q4_ := keep_cell hI.bel q4_
               have z_q5_ := keep_cell hI.bel q5_
               have z_q6_ := keep_cell hI.bel q6_
               have ev13 : u 13 = _ := hR 13 (by decide)
               rw [ev13]
               have HI := Lib.hid hI
               clear hI hR hld hlT ev13
               go_wp2
               exact ⟨rfl, _, rfl, rfl, HI.out, fun j_ y_ _ _ hx => hk _ _ j_ y_ hx⟩
             · refine Owes7.mk _ rfl rfl (fun _ _ h => by cases h) fun u n_ w' hm ls hI hli hld hlT hR => ⟨⟨(frm 86 [(57, u 1), (58, u 2), (60, u 4), (70, u 14)]).toArray, []⟩, rfl, fun d hd => by cases hd; exact frm_lt (by decide), ?_⟩
               dsimp only [frm, List.foldl, List.replicate, List.set]
               have ev1 : u 1 = _ := hR 1 (by decide)
               have ev2 : u 2 = _ := hR 2 (by decide)
               have ev4 : u 4 = _ := hR 4 (by decide)
               have ev14 : u 14 = _ := hR 14 (by decide)
               rw [ev1, ev2, ev4, ev14]
               have l16 : ls 16 = false := by
                cases e : ls 16 with
                | false => rfl
                | true => have := hld 16 e 15 (by decide); rw [hli] at this; cases this
               have l17 : ls 17 = false := by
                cases e : ls 17 with
                | false => rfl
                | true => have := hld 17 e 15 (by decide); rw [hli] at this; cases this
               have l18 : ls 18 = false := by
                cases e : ls 18 with
                | false => rfl
                | true => have := hld 18 e 15 (by decide); rw [hli] at this; cases this
               have l21 : ls 21 = false := by
                cases e : ls 21 with
                | false => rfl
                | true => have := hld 21 e 15 (by decide); rw [hli] at this; cases this
               have GMx := Lib.hid (SlR.below mrR_fits HG0.out hI.bel)
               have GWx := Lib.hid (SlR.below intR_fits HM0.out hI.bel)
               have GHx := Lib.hid (SlR.below intR_fits HM1.out hI.bel)
               have G0x := Lib.hid (SlR.below intR_fits HD.out hI.bel)
               have G1x := Lib.hid (SlR.below intR_fits HL.out hI.bel)
               have HI := Lib.hid hI
               have L15 := Lib.hid hli
               have L16 := Lib.hid l16
               have L17 := Lib.hid l17
               have L18 := Lib.hid l18
               have L21 := Lib.hid l21
               clear hI hR hli hld hlT l16 l17 l18 l21
               go_wp2_with fail
               refine (sAtmDo_any c.map S.1.mem S.1.holds x (i : Int) _ _ _ _ _ fp0 sf0 sf1 df lf (busOk_mp Q0.out) HOK.out.ok HOK.out.ml HOK.out.hl (by omega) hw2 HROK.out _ GMx.out GWx.out GHx.out G0x.out G1x.out).mono ?_
               rintro e w8 ⟨z0, z1, z2, z3, z4, f', rfl, hd', b8⟩
               have HH := Lib.hid (HI.out.call L15.out L15.out L16.out L17.out L18.out L21.out b8 hd')
               clear b8 hd'
               go_wp2
               exact ⟨rfl, _, rfl, trivial, HH.out, fun j_ y_ _ _ hx => hk _ _ j_ y_ hx⟩
             · refine Owes7.mk _ rfl rfl (fun _ _ h => by cases h) fun u n_ w' hm ls hI hli hld hlT hR => ⟨⟨(frm 86 [(71, u 15)]).toArray, []⟩, rfl, fun d hd => by cases hd; exact frm_lt (by decide), ?_⟩
               dsimp only [frm, List.foldl, List.replicate, List.set]
               have HH := Lib.hid (hI.move (hlT 15 (by decide)))
               clear hI hR hli hld hlT
               go_wp2
               exact ⟨rfl, _, rfl, trivial, HH.out, fun j_ y_ _ _ hx => hk _ _ j_ y_ hx⟩
             · refine Owes7.mk _ rfl rfl (fun _ _ h => by cases h) fun u n_ w' hm ls hI hli hld hlT hR => ⟨⟨(frm 86 [(55, u 16)]).toArray, []⟩, rfl, fun d hd => by cases hd; exact frm_lt (by decide), ?_⟩
               dsimp only [frm, List.foldl, List.replicate, List.set]
               obtain ⟨z0, z1, z2, z3, z4, e6, hX, hY⟩ := hI.tup (hlT 16 (by decide))
               have e6 : u 16 = _ := e6
               dsimp only at hX
               rw [e6] at hX
               rw [e6]
               have HH := Lib.hid hX
               clear hI hR hli hld hlT hX hY e6
               go_wp2
               exact ⟨rfl, _, rfl, trivial, HH.out, fun j_ y_ _ _ hx => hk _ _ j_ y_ hx⟩
             · refine Owes7.mk _ rfl rfl (fun _ _ h => by cases h) fun u n_ w' hm ls hI hli hld hlT hR => ⟨⟨(frm 86 [(55, u 16)]).toArray, []⟩, rfl, fun d hd => by cases hd; exact frm_lt (by decide), ?_⟩
               dsimp only [frm, List.foldl, List.replicate, List.set]
               obtain ⟨z0, z1, z2, z3, z4, e6, hX, hY⟩ := hI.tup (hlT 16 (by decide))
               have e6 : u 16 = _ := e6
               dsimp only at hY
               rw [e6] at hY
               rw [e6]
               have HH := Lib.hid hY
               clear hI hR hli hld hlT hX hY e6
               go_wp2
               exact ⟨rfl, _, rfl, trivial, HH.out, fun j_ y_ _ _ hx => hk _ _ j_ y_ hx⟩
             · refine Owes7.mk _ rfl rfl (fun _ _ h => by cases h) fun u n_ w' hm ls hI hli hld hlT hR => ⟨⟨(frm 86 []).toArray, []⟩, rfl, fun d hd => by cases hd; exact frm_lt (by decide), ?_⟩
               dsimp only [frm, List.foldl, List.replicate, List.set]
               have l21 : ls 21 = false := by
                cases e : ls 21 with
                | false => rfl
                | true => have := hld 21 e 19 (by decide); rw [hli] at this; cases this
               have ba := below_alloc w' (.cells #[.slice none 0 0, .slice none 0 0] 33)
               have HH := Lib.hid (hI.boxA hli l21 ba (room_alloc rfl (by simp)))
               clear hI hR hli hld hlT ba l21
               go_wp2
               exact ⟨rfl, _, rfl, trivial, HH.out, fun j_ y_ _ _ hx => hk _ _ j_ y_ hx⟩
             · refine Owes7.mk _ rfl rfl (fun _ _ h => by cases h) fun u n_ w' hm ls hI hli hld hlT hR => ⟨⟨(frm 86 []).toArray, []⟩, rfl, fun d hd => by cases hd; exact frm_lt (by decide), ?_⟩
               dsimp only [frm, List.foldl, List.replicate, List.set]
               have ba := below_alloc w' (.cells #[.int .i64 0, .int .i64 0, .slice none 0 0] 63)
               have HH := Lib.hid (hI.boxB hli ba (room_alloc rfl (by simp)))
               clear hI hR hli hld hlT ba
               go_wp2
               exact ⟨rfl, _, rfl, trivial, HH.out, fun j_ y_ _ _ hx => hk _ _ j_ y_ hx⟩
             · refine Owes7.mk _ rfl rfl (fun _ _ h => by cases h) fun u n_ w' hm ls hI hli hld hlT hR => ⟨⟨(frm 86 [(10, u 19), (72, u 17)]).toArray, []⟩, rfl, fun d hd => (by cases hd), ?_⟩
               dsimp only [frm, List.foldl, List.replicate, List.set]
               obtain ⟨za, za', zn, zc, zn', zc', p, e7, e9, hr, hH⟩ := hI.lay (hlT 15 (by decide)) (hlT 17 (by decide)) (hlT 19 (by decide))
               have e7 : u 17 = _ := e7
               have e9 : u 19 = _ := e9
               obtain ⟨t0, r0⟩ := hr.2.1 0 (by omega)
               obtain ⟨t1, r1⟩ := hr.2.1 1 (by omega)
               have q0 := hr.2.2 0
               have q1 := hr.2.2 1
               dsimp only at hH
               rw [e7, e9] at hH
               rw [e7, e9]
               have HH := Lib.hid hH
               clear hI hR hli hld hlT hH e7 e9 hr
               go_wp2
               exact ⟨rfl, undef, rfl, trivial, HH.out, fun j_ y_ _ _ hx => hk _ _ j_ y_ hx⟩
            case hend =>
             intro ls u w' hls hI hR
             simp only [setAll, List.set_cons_zero, List.set_cons_succ]
             obtain ⟨f, z0, z1, z2_, z3, z4, p, q, e9, e10, e8, hd, p0, p1, hq, npf, nqf, npq, hp, hq', hpl⟩ := hI.fin (hls 15 (by decide)) (hls 18 (by decide)) (hls 21 (by decide)) (hls 20 (by decide))
             have e9 : u 19 = _ := e9
             have e10 : u 20 = _ := e10
             have e8 : u 18 = _ := e8
             obtain ⟨⟨xa', xn', xc', rfl⟩, ⟨ya', yn', yc', rfl⟩, ⟨ga, gn, gc, rfl⟩⟩ := hd.forms
             have hdd := hd
             obtain ⟨-, -, -, rfl, rfl, -⟩ := hdd
             rw [e8, e9, e10]
             obtain ⟨t0, r0⟩ := hq.2.1 0 (by omega)
             obtain ⟨t1, r1⟩ := hq.2.1 1 (by omega)
             obtain ⟨t2, r2⟩ := hq.2.1 2 (by omega)
             have g0' := hq.2.2 0
             have g1' := hq.2.2 1
             have g2' := hq.2.2 2
             have HDN := Lib.hid hd
             have P0 := Lib.hid p0
             have P1 := Lib.hid p1
             have NQF := Lib.hid nqf
             have NPQ := Lib.hid npq
             have HQ := Lib.hid hq'
             have HBI := Lib.hid hI.bel
             have HS7 := Lib.hid (HS.out.below hI.bel)
             replace t0_ := keep_cell hI.bel t0_
             replace t1_ := keep_cell hI.bel t1_
             replace v1_ := keep_cell hI.bel v1_
             replace v2_ := keep_cell hI.bel v2_
             clear hI hR hls hk e8 e9 e10 hd p0 p1 hq npf nqf npq hp hq' hpl x0 x2 d0_ q0_ q1_ q2_ q3_ q4_ q5_ q6_
             go_upto_region 11 with fail
             obtain ⟨w8, hw8⟩ : ∃ z, z = ((w'.setCell ⟨q, 0, none⟩ (.int .i64 x.id)).setCell ⟨q, 1, none⟩ (.int .i64 (atmDo c.map S.1.mem S.1.holds (i : Int) x).code)).setCell ⟨q, 2, none⟩ (.slice ga gn gc) := ⟨_, rfl⟩
             rw [<- hw8]
             have ch8 : Chg [q] w' w8 := by rw [hw8]; exact ((store_chg _).trans' (store_chg _)).trans' (store_chg _)
             have Y0 : w8.cell? ⟨q, 0, none⟩ = some (.int .i64 x.id) := by rw [hw8]; exact setOther _ (by decide) (setOther _ (by decide) (setSame _ r0))
             have Y1 : w8.cell? ⟨q, 1, none⟩ = some (.int .i64 (atmDo c.map S.1.mem S.1.holds (i : Int) x).code) := by rw [hw8]; exact setOther _ (by decide) (setSame _ (setOther _ (by decide) r1))
             have Y2 : w8.cell? ⟨q, 2, none⟩ = some (.slice ga gn gc) := by rw [hw8]; exact setSame _ (setOther _ (by decide) (setOther _ (by decide) r2))
             have X0' : w8.cell? ⟨p, 0, none⟩ = some (.slice xa' xn' xc') := keep_cell_chg ch8 P0.out (by simpa using NPQ.out)
             have X1' : w8.cell? ⟨p, 1, none⟩ = some (.slice ya' yn' yc') := keep_cell_chg ch8 P1.out (by simpa using NPQ.out)
             have b78 : Below w7.heap.size w7 w8 := ((HBI.out.chg [q]).trans' ch8).home (fun b hb => by have := HQ.out; simp at hb; omega)
             have HD8 := Lib.hid (HDN.out.chg ch8 (fun b hb e => by simp at e; subst e; exact NQF.out hb))
             have nsq : sb ∉ [q] := by have := HQ.out; have := HZ7.out; have := HZR.out; have := HZ5.out; simp; omega
             have neq_ : eb ∉ [q] := by have := HQ.out; have := HZ7.out; simp; omega
             replace t0_ := keep_cell_chg ch8 t0_ nsq
             replace t1_ := keep_cell_chg ch8 t1_ nsq
             replace v1_ := keep_cell_chg ch8 v1_ neq_
             replace v2_ := keep_cell_chg ch8 v2_ neq_
             have HS8 := Lib.hid (HS.out.below b78)
             have HB78 := Lib.hid b78
             obtain ⟨fs0, fs1⟩ : w8.frozen? ⟨sb, 0, none⟩ = false ∧ w8.frozen? ⟨sb, 1, none⟩ = false := by
              obtain ⟨_, _, _, _, _, _, hh⟩ := HS8.out
              exact ⟨hh.fr 0, hh.fr 1⟩
             have hqs : q < w8.heap.size := block_of_cell Y0
             have hsb8 : sb < w8.heap.size := block_of_cell t0_
             have heb8 : eb < w8.heap.size := block_of_cell v1_
             clear hw8 ch8 r0 r1 r2 g0' g1' g2' HDN P0 P1 NQF HBI HS7 b78
             go_upto_region 12 with fail
             obtain ⟨w9, hw9⟩ : ∃ z, z = (w8.setCell ⟨sb, 0, none⟩ (.slice xa' xn' xc')).setCell ⟨sb, 1, none⟩ (.slice ya' yn' yc') := ⟨_, rfl⟩
             rw [<- hw9]
             have ch9 : Chg [sb] w8 w9 := by rw [hw9]; exact (store_chg _).trans' (store_chg _)
             have nqs : q ∉ [sb] := fun e => nsq (by simp at e; simp [e])
             have nes : eb ∉ [sb] := by have := HZR.out; have := HZ5.out; simp; omega
             replace Y0 := keep_cell_chg ch9 Y0 nqs
             replace Y1 := keep_cell_chg ch9 Y1 nqs
             replace Y2 := keep_cell_chg ch9 Y2 nqs
             replace v1_ := keep_cell_chg ch9 v1_ nes
             replace v2_ := keep_cell_chg ch9 v2_ nes
             have HW9 := Lib.hid hw9
             have ba := below_alloc w9 (.cells #[.int .i64 (i : Int), .int .i64 (m : Int), .int .i64 x.id, .int .i64 (atmDo c.map S.1.mem S.1.holds (i : Int) x).code, .slice ga gn gc] 69)
             obtain ⟨rows, fps, fd, ho, hj, hlo, hnd, hfr, hap, hls_, hnx⟩ := HS.out.next (c := c) (e := ⟨kd, (i : Int), (m : Int)⟩) (r := x) HB78.out (Nat.le_refl _) HD8.out hw9 ba
             have HO := Lib.hid ho
             have HJ := Lib.hid hj
             have HLO := Lib.hid hlo
             have HND := Lib.hid hnd
             have HFR := Lib.hid hfr
             have HAP := Lib.hid hap
             have HLS := Lib.hid hls_
             have HNX := Lib.hid hnx
             clear ho hj hlo hnd hfr hap hls_ hnx ba hw9 ch9 X0' X1' t0_ t1_ fs0 fs1 nqs nes nsq neq_
             have hSl : S.2.length <= 2000000 := by have := HOK.out.jl; have := Q1.out; omega
             go_wp2_with (at_builtin; refine wpList_pushQ (R := jobR) (K := 5) (v := u6) (l := S.2) (base := w.heap.size + 1 + 1) (x := ⟨(i : Int), (m : Int), ⟨x.id, (atmDo c.map S.1.mem S.1.holds (i : Int) x).code, (atmDo c.map S.1.mem S.1.holds (i : Int) x).data⟩⟩) (cs := [.int .i64 (i : Int), .int .i64 (m : Int), .int .i64 x.id, .int .i64 (atmDo c.map S.1.mem S.1.holds (i : Int) x).code, .slice ga gn gc]) rfl _ _ 34 69 i0 (.agg #[.int .i64 0, .int .i64 0, .int .i64 0, .int .i64 0, .slice none 0 0]) 56 jobR_fits rfl Tryz.underlying34 hi hz0 hz1 hz2 rfl (by decide) (by decide) rfl rfl HO.out HJ.out HLO.out HND.out HFR.out HAP.out (fun j hj => by rw [add_plain, Nat.zero_add]; exact alloc1_new _ _ _ j (by rw [<- Array.getElem?_toList]; exact List.getElem?_eq_getElem hj)) (by simp [Value.oneCell']) hSl HLS.out ?_; intro v' wb rows' ho' hb' hk' hbk'; have HV := Lib.hid (HNX.out v' wb rows' ho' hb' hk' hbk'); clear ho' hb' hk' hbk')
             go_roundw
             case rel => exact ⟨k + 1, by omega, by go_num, by rw [HYES.out]; exact HV.out⟩
             case measure => simp [intOf]; omega
    · obtain rfl : k = ne := by omega
      have hall : l.take k = l := List.take_of_length_le (by rw [hn.out]; exact Nat.le_refl _)
      have hs := HS.out
      rw [hall] at hs
      have hcw := hs.ch
      obtain ⟨x0, x1, f0, f1, f, s0_, s1_, h0, h1, hj, hlo⟩ := hs.fin
      obtain ⟨xa', xn', xc', rfl⟩ := h0.form
      obtain ⟨ya', yn', yc', rfl⟩ := h1.form
      obtain ⟨ja, jn, jc, rfl⟩ := hj.form
      have hRA := RA.out.chg_off RA.out.1 hcw (by have := HZ4.out; simp; omega)
      obtain ⟨t0, r0⟩ := hRA.2.1 0 (by omega)
      obtain ⟨t1, r1⟩ := hRA.2.1 1 (by omega)
      have q0 := hRA.2.2 0
      have q1 := hRA.2.2 1
      have HBr := Lib.hid (((HB.out.chg [sb, w.heap.size + 1 + 1]).trans' hcw).home (fun b hb => by have := HZ4.out; simp at hb; omega))
      have H0 := Lib.hid h0
      have H1 := Lib.hid h1
      have HJ := Lib.hid hj
      have HLO := Lib.hid hlo
      clear hs hcw h0 h1 hj hlo hRA HS
      go_wp2
      have hc : Chg [w.heap.size + 1] wr ((wr.setCell ⟨w.heap.size + 1, 0, none⟩ (.slice xa' xn' xc')).setCell ⟨w.heap.size + 1, 1, none⟩ (.slice ya' yn' yc')) := (store_chg _).trans' (store_chg _)
      have nd : ∀ b, b ∈ f0 ++ f1 ++ f -> b ∉ [w.heap.size + 1] := fun b hb e => by have := HLO.out b hb; simp at e; omega
      refine bodyPost_ret (v := .tuple #[.agg #[.slice xa' xn' xc', .slice ya' yn' yc'], .slice ja jn jc]) (by simp [results, Tryz.results6, go_sem, put2a_0 _ _ r0, put2a_1 _ _ r1]) rfl ?_
      rw [HR.out]
      exact ⟨_, _, _, f0, f1, f, rfl, H0.out.chg intR_fits hc (fun b hb => nd b (by simp [hb])), H1.out.chg intR_fits hc (fun b hb => nd b (by simp [hb])), HJ.out.chg jobR_fits hc (fun b hb => nd b (by simp [hb])), fun b hb => by have := HLO.out b hb; omega, ((HBr.out.chg [w.heap.size + 1]).trans' hc).home (fun b hb => by simp at hb; omega)⟩
 · have HN := Lib.hid (atmOrder_no hok)
   cases q0 : busOk c
   · have Q0 := Lib.hid q0
     clear q0 hok
     go_enter Tryz.func6, Tryz.ntmps6
     go_upto_region 1 with fail
     rw [<- hw1]
     clear hw1
     go_upto_region 2 with fail
     have b2 := below_alloc w1 (.cells #[] 69)
     replace X0 := keep_cell b2 X0
     replace X1 := keep_cell b2 X1
     replace X2 := keep_cell b2 X2
     replace G0 := Lib.hid (SlR.below mrR_fits G0.out b2)
     replace G1 := Lib.hid (SlR.below intR_fits G1.out b2)
     replace G2 := Lib.hid (SlR.below (slR_fits reqR_fits) G2.out b2)
     replace GE := Lib.hid (SlR.below evR_fits GE.out b2)
     replace HB := Lib.hid (HB.out.trans (b2.mono HB.out.size))
     have rA2 := RA.out.below b2
     have HO : Hid (OwnE 5 jobR 69 w1.heap.size (w1.alloc (.cells #[] 69)) (.slice (some ⟨w1.heap.size, 0, none⟩) 0 0) []) := Lib.hid (OwnE.lit w1 (Nat.le_refl _))
     obtain ⟨w2, hw2⟩ : ∃ z, z = w1.alloc (.cells #[] 69) := ⟨_, rfl⟩
     have z2 : w2.heap.size = w.heap.size + 1 + 1 + 1 := by rw [hw2]; simp [z1]
     rw [<- hw2] at X0 X1 X2 G0 G1 G2 GE HB HO rA2
     replace RA := Lib.hid rA2
     rw [<- hw2]
     clear rA2 b2 hw2 y0 y1
     go_wp2_with (go_at_call 23; refine (sBusOk_any c _ _ _ fp0 fp1 fp2 _ G0.out G1.out G2.out).mono ?_; rw [Q0.out]; rintro e w3 ⟨rfl, b⟩; replace HO := Lib.hid (OwnE.below jobR_fits HO.out b); replace RA := Lib.hid (RA.out.below b); replace HB := Lib.hid (HB.out.trans (b.mono HB.out.size)); obtain ⟨t0, r0⟩ := RA.out.2.1 0 (by omega); obtain ⟨t1, r1⟩ := RA.out.2.1 1 (by omega); have q0 := RA.out.2.2 0; have q1 := RA.out.2.2 1; clear b)
     have hc : Chg [w.heap.size + 1] w3 ((w3.setCell ⟨w.heap.size + 1, 0, none⟩ (.slice none 0 0)).setCell ⟨w.heap.size + 1, 1, none⟩ (.slice none 0 0)) := (store_chg _).trans' (store_chg _)
     obtain ⟨f, hj, hlo, -, -⟩ := HO.out.reads jobR_fits
     rw [z1] at hj hlo
     refine bodyPost_ret (v := .tuple #[.agg #[.slice none 0 0, .slice none 0 0], .slice (some ⟨w.heap.size + 1 + 1, 0, none⟩) 0 0]) (by simp [results, Tryz.results6, go_sem, put2a_0 _ _ r0, put2a_1 _ _ r1]) rfl ?_
     rw [HN.out]
     exact ⟨_, _, _, [], [], f, rfl, sl_none _, sl_none _, hj.chg jobR_fits hc (fun b hb e => by have := hlo b hb; simp at e; omega), fun b hb => by have := hlo b (by simpa using hb); omega, ((HB.out.chg [w.heap.size + 1]).trans' hc).home (fun b hb => by simp at hb; omega)⟩
   · have hgt : (ne : Int) > 108 := by have := hn.out; have : ¬ l.length <= 108 := fun h => hok ⟨q0, h⟩; omega
     have Q0 := Lib.hid q0
     clear q0 hok
     go_enter Tryz.func6, Tryz.ntmps6
     go_upto_region 1 with fail
     rw [<- hw1]
     clear hw1
     go_upto_region 2 with fail
     have b2 := below_alloc w1 (.cells #[] 69)
     replace X0 := keep_cell b2 X0
     replace X1 := keep_cell b2 X1
     replace X2 := keep_cell b2 X2
     replace G0 := Lib.hid (SlR.below mrR_fits G0.out b2)
     replace G1 := Lib.hid (SlR.below intR_fits G1.out b2)
     replace G2 := Lib.hid (SlR.below (slR_fits reqR_fits) G2.out b2)
     replace GE := Lib.hid (SlR.below evR_fits GE.out b2)
     replace HB := Lib.hid (HB.out.trans (b2.mono HB.out.size))
     have rA2 := RA.out.below b2
     have HO : Hid (OwnE 5 jobR 69 w1.heap.size (w1.alloc (.cells #[] 69)) (.slice (some ⟨w1.heap.size, 0, none⟩) 0 0) []) := Lib.hid (OwnE.lit w1 (Nat.le_refl _))
     obtain ⟨w2, hw2⟩ : ∃ z, z = w1.alloc (.cells #[] 69) := ⟨_, rfl⟩
     have z2 : w2.heap.size = w.heap.size + 1 + 1 + 1 := by rw [hw2]; simp [z1]
     rw [<- hw2] at X0 X1 X2 G0 G1 G2 GE HB HO rA2
     replace RA := Lib.hid rA2
     rw [<- hw2]
     clear rA2 b2 hw2 y0 y1
     go_wp2_with (go_at_call 23; refine (sBusOk_any c _ _ _ fp0 fp1 fp2 _ G0.out G1.out G2.out).mono ?_; rw [Q0.out]; rintro e w3 ⟨rfl, b⟩; replace HO := Lib.hid (OwnE.below jobR_fits HO.out b); replace RA := Lib.hid (RA.out.below b); replace HB := Lib.hid (HB.out.trans (b.mono HB.out.size)); obtain ⟨t0, r0⟩ := RA.out.2.1 0 (by omega); obtain ⟨t1, r1⟩ := RA.out.2.1 1 (by omega); have q0 := RA.out.2.2 0; have q1 := RA.out.2.2 1; clear b)
     have hc : Chg [w.heap.size + 1] w3 ((w3.setCell ⟨w.heap.size + 1, 0, none⟩ (.slice none 0 0)).setCell ⟨w.heap.size + 1, 1, none⟩ (.slice none 0 0)) := (store_chg _).trans' (store_chg _)
     obtain ⟨f, hj, hlo, -, -⟩ := HO.out.reads jobR_fits
     rw [z1] at hj hlo
     refine bodyPost_ret (v := .tuple #[.agg #[.slice none 0 0, .slice none 0 0], .slice (some ⟨w.heap.size + 1 + 1, 0, none⟩) 0 0]) (by simp [results, Tryz.results6, go_sem, put2a_0 _ _ r0, put2a_1 _ _ r1]) rfl ?_
     rw [HN.out]
     exact ⟨_, _, _, [], [], f, rfl, sl_none _, sl_none _, hj.chg jobR_fits hc (fun b hb e => by have := hlo b hb; simp at e; omega), fun b hb => by have := hlo b (by simpa using hb); omega, ((HB.out.chg [w.heap.size + 1]).trans' hc).home (fun b hb => by simp at hb; omega)⟩
end Go.Proofs.YtaeiddoccfaheaaGreat
