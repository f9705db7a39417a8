/-
 Texts of this claim laid together: OrdI.
-/
import Derived.Test.YtaeiddoccfaheaaGreatPk35
import Derived.Test.YtaeiddoccfaheaaGreatPk32
set_option linter.unusedVariables false
set_option linter.unusedSimpArgs false
namespace Go.Proofs.YtaeiddoccfaheaaGreat
def tbAtmOrder11 : List (List Nat) := [[], [], [1], [0, 1, 2], [0, 1, 2, 3]]
open Go.RowKit Go.ChangeShapes Go.WideShapes
def OrdNew (w : World) (R : Atm × List Job) (e : Ending) (w' : World) : Prop :=
 ∃ x0 x1 v f0 f1 f, e = .returned (.tuple #[.agg #[x0, x1], v]) ∧ SlR 1 intR w' R.1.mem x0 f0 ∧ SlR 1 intR w' R.1.holds x1 f1 ∧ SlR 5 jobR w' R.2 v f ∧ New (f0 ++ f1 ++ f) w w' ∧ Below w.heap.size w w'
theorem atmOrder_noI {c : Bus} {l : List Ev} (h : ¬ (busOk c = true ∧ l.length <= 108)) : atmOrder c l = (⟨[], []⟩, []) := if_neg h
theorem atmOrder_yesI {c : Bus} {l : List Ev} (h : busOk c = true ∧ l.length <= 108) : atmOrder c l = ordAll c l := if_pos h
theorem Chg.onto {fp : List Nat} {a b c : World} (h : Chg fp a b) (g : Below a.heap.size b c) : Chg fp a c := ⟨g.os.trans h.os, g.tape.trans h.tape, g.output.trans h.output, Nat.le_trans h.size g.size, fun k hk hn => (g.block k hk).trans (h.block k hk hn)⟩
theorem sl_noneI {α : Type} {k : Nat} {R : Pr α} (w : World) : SlR k R w [] (.slice none 0 0) [] := ⟨none, 0, 0, rfl, rfl, Nat.le_refl _, Nat.zero_le _, .inl ⟨rfl, rfl⟩⟩
set_option maxRecDepth 100000 in
set_option maxHeartbeats 12800000 in
theorem iAtmOrder_any (c : Bus) (l : List Ev) (v0 v1 v2 ve : Value) (fp0 fp1 fp2 fe : List Nat) (w : World) (g0 : SlR 4 mrR w c.map v0 fp0) (g1 : SlR 1 intR w c.lat v1 fp1) (g2 : SlR 1 (slR 7 reqR) w c.progs v2 fp2) (ge : SlR 3 evR w l ve fe) :
 Calls Tryz.prog 9 #[.agg #[v0, v1, v2], ve] w (OrdNew w (atmOrder c l)) := by
 obtain ⟨a0, n0, c0, rfl⟩ := g0.form
 obtain ⟨a1, n1, c1, rfl⟩ := g1.form
 obtain ⟨a2, n2, c2, rfl⟩ := g2.form
 obtain ⟨i0, hi, hz0, hz1, hz2⟩ := info_parts info_jobs
 obtain ⟨w1, hw1⟩ : ∃ z, z = (w.alloc (.cells #[.slice a0 n0 c0, .slice a1 n1 c1, .slice a2 n2 c2] 40)).alloc (.cells #[.slice none 0 0, .slice none 0 0] 33) := ⟨_, rfl⟩
 have b1 : Below w.heap.size w w1 := by rw [hw1]; exact (below_alloc _ _).trans ((below_alloc _ _).mono (by simp))
 have z1 : w1.heap.size = w.heap.size + 1 + 1 := by rw [hw1]; simp
 have X0 : w1.cell? ⟨w.heap.size, 0, none⟩ = some (.slice a0 n0 c0) := by rw [hw1]; exact alloc_keep (alloc1_new _ _ _ 0 rfl) _
 have X1 : w1.cell? ⟨w.heap.size, 1, none⟩ = some (.slice a1 n1 c1) := by rw [hw1]; exact alloc_keep (alloc1_new _ _ _ 1 rfl) _
 have X2 : w1.cell? ⟨w.heap.size, 2, none⟩ = some (.slice a2 n2 c2) := by rw [hw1]; exact alloc_keep (alloc1_new _ _ _ 2 rfl) _
 have rA : RoomAt (w.heap.size + 1) 2 w1 := by rw [hw1]; exact room_alloc (by simp) (by simp)
 have y0 : w1.cell? ⟨w.heap.size + 1, 0, none⟩ = some (.slice none 0 0) := by rw [hw1]; exact alloc2_new _ _ _ _ _ 0 rfl
 have y1 : w1.cell? ⟨w.heap.size + 1, 1, none⟩ = some (.slice none 0 0) := by rw [hw1]; exact alloc2_new _ _ _ _ _ 1 rfl
 have G0 := Lib.hid (SlR.below mrR_fits g0 b1)
 have G1 := Lib.hid (SlR.below intR_fits g1 b1)
 have G2 := Lib.hid (SlR.below (slR_fits reqR_fits) g2 b1)
 have GE := Lib.hid (SlR.below evR_fits ge b1)
 have HB := Lib.hid b1
 have L0 : Hid (∀ b, b ∈ fp0 -> b < w.heap.size) := Lib.hid (g0.lt mrR_fits)
 have L2 : Hid (∀ b, b ∈ fp2 -> b < w.heap.size) := Lib.hid (g2.lt (slR_fits reqR_fits))
 have LE : Hid (∀ b, b ∈ fe -> b < w.heap.size) := Lib.hid (ge.lt evR_fits)
 have RA := Lib.hid rA
 obtain ⟨ae, ne, ce, rfl, hn, hcap, hmax, hcm, r⟩ := GE.out.opened
 clear g0 g1 g2 ge b1 rA r
 by_cases hok : busOk c = true ∧ l.length <= 108
 · have HR := Lib.hid (atmOrder_yesI hok)
   obtain ⟨q0, q1⟩ := hok
   have hng : ¬ (ne : Int) > 108 := by have := hn.out; omega
   have Q0 := Lib.hid q0
   have Q1 := Lib.hid q1
   clear q0 q1
   go_enter Tryz.func9, Tryz.ntmps9
   go_upto_region 1 with fail
   rw [<- hw1]
   clear hw1 y0 y1
   go_upto_region 3 with (go_at_call 31; refine (iBusOk_any c _ _ _ fp0 fp1 fp2 _ G0.out G1.out G2.out).mono ?_; rw [Q0.out]; rintro e w3 ⟨rfl, b⟩; replace G0 := Lib.hid (SlR.below mrR_fits G0.out b); replace G1 := Lib.hid (SlR.below intR_fits G1.out b); replace G2 := Lib.hid (SlR.below (slR_fits reqR_fits) G2.out b); replace GE := Lib.hid (SlR.below evR_fits GE.out b); replace X0 := keep_cell b X0; replace X1 := keep_cell b X1; replace X2 := keep_cell b X2; replace RA := Lib.hid (RA.out.below b); have HZ : Hid (w.heap.size + 1 + 1 <= w3.heap.size) := Lib.hid (by have := b.size; omega); replace HB := Lib.hid (HB.out.trans (b.mono HB.out.size)); clear b)
   go_wp2_with fail
   refine (iAtmNew_any _).mono ?_
   rintro e w4 ⟨x0, d0, x1, d1, rfl, m0, m1, nw, b4⟩
   obtain ⟨xa, xn, xc, rfl⟩ := m0.form
   obtain ⟨ya, yn, yc, rfl⟩ := m1.form
   replace X0 := keep_cell b4 X0
   replace X1 := keep_cell b4 X1
   replace X2 := keep_cell b4 X2
   replace G0 := Lib.hid (SlR.below mrR_fits G0.out b4)
   replace G1 := Lib.hid (SlR.below intR_fits G1.out b4)
   replace G2 := Lib.hid (SlR.below (slR_fits reqR_fits) G2.out b4)
   replace GE := Lib.hid (SlR.below evR_fits GE.out b4)
   replace RA := Lib.hid (RA.out.below b4)
   replace HB := Lib.hid (HB.out.trans (b4.mono HB.out.size))
   have M0 := Lib.hid m0
   have M1 := Lib.hid m1
   have NW : Hid (∀ b, b ∈ d0 ++ d1 -> w.heap.size + 1 + 1 <= b) := Lib.hid fun b hb => Nat.le_trans HZ.out (nw.lo b hb)
   have NL : Hid (∀ b, b ∈ d0 ++ d1 -> b < w4.heap.size) := Lib.hid fun b hb => (List.mem_append.1 hb).elim (m0.lt intR_fits b) (m1.lt intR_fits b)
   have NO := Lib.hid nw.once
   have NF := Lib.hid nw.free
   replace HZ := Lib.hid (Nat.le_trans HZ.out b4.size)
   clear m0 m1 nw b4
   go_upto_region 4 with fail
   obtain ⟨w5, hw5⟩ : ∃ z, z = w4.alloc (.cells #[.slice xa xn xc, .slice ya yn yc] 33) := ⟨_, rfl⟩
   rw [<- hw5]
   have b5 : Below w4.heap.size w4 w5 := by rw [hw5]; exact below_alloc _ _
   have hz5 : w5.heap.size = w4.heap.size + 1 := by rw [hw5]; simp
   have t0_ : w5.cell? ⟨w4.heap.size, 0, none⟩ = some (.slice xa xn xc) := by rw [hw5]; exact alloc1_new _ _ _ 0 rfl
   have t1_ : w5.cell? ⟨w4.heap.size, 1, none⟩ = some (.slice ya yn yc) := by rw [hw5]; exact alloc1_new _ _ _ 1 rfl
   have HSI : Hid (IoI w5 (.slice xa xn xc) (.slice ya yn yc) d0 d1 (atmNew, []) (.slice none 0 0) w5) := Lib.hid ⟨Chg.refl _ _, SlR.below intR_fits M0.out b5, SlR.below intR_fits M1.out b5, NF.out.below NL.out b5, OwnE.nil _ _⟩
   replace X0 := keep_cell b5 X0
   replace X1 := keep_cell b5 X1
   replace X2 := keep_cell b5 X2
   replace G0 := Lib.hid (SlR.below mrR_fits G0.out b5)
   replace G2 := Lib.hid (SlR.below (slR_fits reqR_fits) G2.out b5)
   replace GE := Lib.hid (SlR.below evR_fits GE.out b5)
   replace RA := Lib.hid (RA.out.below b5)
   replace HB := Lib.hid (HB.out.trans (b5.mono HB.out.size))
   have HZ5 := Lib.hid hz5
   obtain ⟨sb, hsb⟩ : ∃ z, z = w4.heap.size := ⟨_, rfl⟩
   rw [<- hsb] at HZ5 HZ NL t0_ t1_
   rw [<- hsb]
   clear hw5 b5 hz5 M0 M1 NF G1 hsb
   go_wp2_with fail
   go_loopw [7, 22] (fun v i wr => ∃ k : Nat, k <= ne ∧ i = .int .i64 (k : Int) ∧ IoI w5 (.slice xa xn xc) (.slice ya yn yc) d0 d1 (ordAll c (l.take k)) v wr) (fun _ i _ => ne - (intOf i).toNat)
   case atStart => exact ⟨0, Nat.zero_le _, rfl, by rw [ordAll_zero]; exact HSI.out⟩
   case round =>
    obtain ⟨k, hk, rfl, hs⟩ := hrel
    have HS := Lib.hid hs
    clear hs
    by_cases hlt : k < ne
    · have hlti : (k : Int) < (ne : Int) := by omega
      have hcw := HS.out.ch
      have nlo : ∀ b, b < w.heap.size + 1 + 1 -> b ∉ d0 ++ d1 := fun b hb hm => by have := NW.out b hm; omega
      obtain ⟨_, _, _, ee, _, _, _, _, hr⟩ := (GE.out.chg evR_fits hcw (fun b hb => nlo b (by have := LE.out b hb; omega))).opened
      cases ee
      obtain ⟨i1, b1, o1, f1, cs, rfl, hb1, _, _, ⟨rfl, rfl⟩, e1⟩ := hr k hlt
      have c0_ := e1 0 (by simp)
      have c1_ := e1 1 (by simp)
      have c2_ := e1 2 (by simp)
      simp only [Nat.add_zero, List.getElem_cons_zero, List.getElem_cons_succ] at c0_ c1_ c2_
      have x0 := keep_cell_chg hcw X0 (nlo _ (by omega))
      have x1 := keep_cell_chg hcw X1 (nlo _ (by omega))
      have x2 := keep_cell_chg hcw X2 (nlo _ (by omega))
      have HG2 := Lib.hid (G2.out.chg (slR_fits reqR_fits) hcw (fun b hb => nlo b (by have := L2.out b hb; omega)))
      have HG0 := Lib.hid (G0.out.chg mrR_fits hcw (fun b hb => nlo b (by have := L0.out b hb; omega)))
      have HPL := Lib.hid (busOk_progs Q0.out)
      obtain ⟨ev, hev⟩ : ∃ z, z = l[k] := ⟨_, rfl⟩
      have HEV := Lib.hid hev
      rw [<- hev] at c0_ c1_ c2_
      obtain ⟨kd, wh, nn⟩ := ev
      dsimp only at c0_ c1_ c2_
      have HZR : Hid (w5.heap.size <= wr.heap.size) := Lib.hid hcw.size
      clear hr hcw nlo e1 hev hb1
      go_upto_region 8 with fail
      obtain ⟨w6, hw6⟩ : ∃ z, z = wr.alloc (.cells #[.int .i64 kd, .int .i64 wh, .int .i64 nn] 59) := ⟨_, rfl⟩
      rw [<- hw6]
      have b6 : Below wr.heap.size wr w6 := by rw [hw6]; exact below_alloc _ _
      have v0_ : w6.cell? ⟨wr.heap.size, 0, none⟩ = some (.int .i64 kd) := by rw [hw6]; exact alloc1_new _ _ _ 0 rfl
      have v1_ : w6.cell? ⟨wr.heap.size, 1, none⟩ = some (.int .i64 wh) := by rw [hw6]; exact alloc1_new _ _ _ 1 rfl
      have v2_ : w6.cell? ⟨wr.heap.size, 2, none⟩ = some (.int .i64 nn) := by rw [hw6]; exact alloc1_new _ _ _ 2 rfl
      replace x0 := keep_cell b6 x0
      replace x1 := keep_cell b6 x1
      replace x2 := keep_cell b6 x2
      replace HG0 := Lib.hid (SlR.below mrR_fits HG0.out b6)
      replace HG2 := Lib.hid (SlR.below (slR_fits reqR_fits) HG2.out b6)
      replace HS := Lib.hid (HS.out.below b6)
      obtain ⟨eb, heb⟩ : ∃ z, z = wr.heap.size := ⟨_, rfl⟩
      rw [<- heb] at v0_ v1_ v2_ HZR
      rw [<- heb]
      clear hw6 b6 heb c0_ c1_ c2_
      cases qk : (kd == 2)
      · have HNO : Hid (¬ (l[k].kind = 2 ∧ asksB c l[k].who l[k].n = true)) := Lib.hid (by rw [<- HEV.out]; rintro ⟨h, -⟩; have h : kd = 2 := h; simp [h] at qk)
        go_wp2
        go_roundw
        case rel => exact ⟨k + 1, by omega, by go_num, by rw [ordAll_succ c i1, ordStep_no HNO.out]; exact HS.out⟩
        case measure => simp [intOf]; omega
      · cases qa : asksB c wh nn
        · have HNO : Hid (¬ (l[k].kind = 2 ∧ asksB c l[k].who l[k].n = true)) := Lib.hid (by rw [<- HEV.out]; rintro ⟨-, h⟩; have h : asksB c wh nn = true := h; rw [qa] at h; cases h)
          have QA := Lib.hid qa
          clear qa
          go_wp2_with fail
          refine (iAsks_any c wh nn _ _ _ fp2 HPL.out _ HG2.out).mono ?_
          rw [QA.out]
          rintro e w7 ⟨rfl, b7⟩
          have HS7 := Lib.hid (HS.out.below b7)
          clear b7
          go_wp2
          go_roundw
          case rel => exact ⟨k + 1, by omega, by go_num, by rw [ordAll_succ c i1, ordStep_no HNO.out]; exact HS7.out⟩
          case measure => simp [intOf]; omega
        · obtain ⟨i, m, hi3, him, rfl, rfl⟩ : ∃ (k i : Nat) (hk : k < c.progs.length) (_ : i < c.progs[k].length), wh = k ∧ nn = i := asks_at HPL.out qa
          have HROK : Hid (reqOk c.progs[i][m] = true) := Lib.hid (busOk_rq Q0.out hi3 him)
          have HYES : Hid (ordAll c (l.take (k + 1)) = ordDo c (ordAll c (l.take k)) ⟨kd, (i : Int), (m : Int)⟩ c.progs[i][m]) := Lib.hid (by rw [ordAll_succ c i1, <- HEV.out]; exact ordStep_yes ⟨by simpa using qk, qa⟩ hi3 him rfl rfl)
          have QA := Lib.hid qa
          clear qa
          go_upto_region 9 with (go_at_call 33; refine (iAsks_any c _ _ _ _ _ fp2 HPL.out _ HG2.out).mono ?_; rw [QA.out]; rintro e w7 ⟨rfl, b7⟩; replace HS := Lib.hid (HS.out.below b7); replace HG0 := Lib.hid (SlR.below mrR_fits HG0.out b7); replace HG2 := Lib.hid (SlR.below (slR_fits reqR_fits) HG2.out b7); replace x0 := keep_cell b7 x0; replace x2 := keep_cell b7 x2; replace v1_ := keep_cell b7 v1_; replace v2_ := keep_cell b7 v2_; clear b7)
          obtain ⟨_, _, _, ee, hn2, _, _, _, hr⟩ := HG2.out.opened
          cases ee
          have hn3 : 3 = n2 := by rw [<- hn2.out, HPL.out]
          subst hn3
          obtain ⟨i2, b2, o2, f2, cs, rfl, hb2, hf2, hs2, ⟨y, rfl, hy⟩, e2⟩ := hr i (by have := HPL.out; omega)
          have d0_ := e2 0 (by simp)
          simp only [Nat.mul_one, Nat.add_zero, List.getElem_cons_zero] at d0_
          obtain ⟨a3, n3, c3, rfl, hn3, _, hm3, hcm3, r3⟩ := hy.opened
          have hi3i : (i : Int) < 3 := by have := HPL.out; omega
          have hmn : m < n3 := by rw [<- hn3.out]; exact him
          have hmni : (m : Int) < (n3 : Int) := by omega
          obtain ⟨i3, b3, o3, f3, cs, rfl, hb3, hf3, hs3, ⟨dv, lv, df, lf, rfl, rfl, hd, hlv⟩, e3⟩ := r3 m hmn
          obtain ⟨da, dn, dc, rfl⟩ := hd.form
          obtain ⟨la, ln, lc, rfl⟩ := hlv.form
          have q0_ := e3 0 (by simp)
          have q1_ := e3 1 (by simp)
          have q2_ := e3 2 (by simp)
          have q3_ := e3 3 (by simp)
          have q4_ := e3 4 (by simp)
          have q5_ := e3 5 (by simp)
          have q6_ := e3 6 (by simp)
          simp only [Nat.add_zero, List.getElem_cons_zero, List.getElem_cons_succ] at q0_ q1_ q2_ q3_ q4_ q5_ q6_
          obtain ⟨x, hx⟩ : ∃ z, z = c.progs[i][m] := ⟨_, rfl⟩
          rw [<- hx] at q0_ q1_ q2_ q3_ q4_ hd hlv HROK HYES
          have HOK : Hid (OrdOk (ordAll c (l.take k)) k) := Lib.hid (ordAll_ok Q0.out l k (by omega))
          obtain ⟨S, hS⟩ : ∃ z, z = ordAll c (l.take k) := ⟨_, rfl⟩
          rw [<- hS] at HOK HYES HS
          have HD := Lib.hid hd
          have HL := Lib.hid hlv
          have NX : w.heap.size ∉ d0 ++ d1 := fun hm => by have := NW.out _ hm; omega
          have NE : eb ∉ d0 ++ d1 := fun hm => by have := NL.out _ hm; have := HZR.out; have := HZ5.out; omega
          have NS : sb ∉ d0 ++ d1 := fun hm => by have := NL.out _ hm; omega
          have N2 : b2 ∉ d0 ++ d1 := fun hm => by have := NW.out _ hm; have := L2.out _ hf2; omega
          have N3 : b3 ∉ d0 ++ d1 := fun hm => by have := NW.out _ hm; have := L2.out _ (hs2 _ hf3); omega
          have ND : Hid (∀ b, b ∈ df ++ lf -> b ∉ d0 ++ d1) := Lib.hid fun b hb hm => by have := NW.out _ hm; have := L2.out _ (hs2 _ (hs3 _ hb)); omega
          have N0 : Hid (∀ b, b ∈ fp0 -> b ∉ d0 ++ d1) := Lib.hid fun b hb hm => by have := NW.out _ hm; have := L0.out _ hb; omega
          have DJ : Hid (∀ b, b ∈ d0 -> b ∉ d1) := Lib.hid fun b hb hb' => (List.nodup_append.1 NO.out).2.2 b hb b hb' rfl
          have T0 := Lib.hid (keep_cell_chg HS.out.ch t0_ NS)
          have T1 := Lib.hid (keep_cell_chg HS.out.ch t1_ NS)
          have HNS := Lib.hid NS
          clear hr e2 hy r3 e3 hd hlv hx hS hb2 hb3 hf2 hs2 hf3 hs3 NS x1 v0_
          have hk : ∀ (wa wb : World) (j_ : Nat) (y_ : Value), facts [FEq (u7), FEq (.pointer (some ⟨eb, 1, none⟩)), FEq (.int .i64 (i : Int)), FEq (.pointer (some ⟨eb, 2, none⟩)), FEq (.int .i64 (m : Int)), FEq (.pointer (some ⟨w.heap.size, 0, none⟩)), FEq (.slice a0 n0 c0), FEq (.pointer (some ⟨eb, 1, none⟩)), FEq (.int .i64 (i : Int)), FEq (.pointer (some ⟨w.heap.size, 2, none⟩)), FEq (.slice (some ⟨b2, o2, none⟩) 3 c2), FEq (.pointer (some ⟨eb, 1, none⟩)), FEq (.int .i64 (i : Int)), FEq (.pointer (some ⟨b2, o2 + i, none⟩)), FEq (.slice (some ⟨b3, o3, none⟩) n3 c3), FEq (.pointer (some ⟨eb, 2, none⟩)), FEq (.int .i64 (m : Int)), FEq (.pointer (some ⟨b3, o3 + m * 7, none⟩)), FEq (.agg #[.int .i64 x.id, .int .i64 x.kind, .int .i64 x.addr, .int .i64 x.many, .bool x.wrap, .slice da dn dc, .slice la ln lc]), FAny, FAny, FAny] j_ y_ wa -> facts [FEq (u7), FEq (.pointer (some ⟨eb, 1, none⟩)), FEq (.int .i64 (i : Int)), FEq (.pointer (some ⟨eb, 2, none⟩)), FEq (.int .i64 (m : Int)), FEq (.pointer (some ⟨w.heap.size, 0, none⟩)), FEq (.slice a0 n0 c0), FEq (.pointer (some ⟨eb, 1, none⟩)), FEq (.int .i64 (i : Int)), FEq (.pointer (some ⟨w.heap.size, 2, none⟩)), FEq (.slice (some ⟨b2, o2, none⟩) 3 c2), FEq (.pointer (some ⟨eb, 1, none⟩)), FEq (.int .i64 (i : Int)), FEq (.pointer (some ⟨b2, o2 + i, none⟩)), FEq (.slice (some ⟨b3, o3, none⟩) n3 c3), FEq (.pointer (some ⟨eb, 2, none⟩)), FEq (.int .i64 (m : Int)), FEq (.pointer (some ⟨b3, o3 + m * 7, none⟩)), FEq (.agg #[.int .i64 x.id, .int .i64 x.kind, .int .i64 x.addr, .int .i64 x.many, .bool x.wrap, .slice da dn dc, .slice la ln lc]), FAny, FAny, FAny] j_ y_ wb := fun wa wb j_ y_ h => by
           rcases j_ with _ | _ | _ | _ | _ | _ | _ | _ | _ | _ | _ | _ | _ | _ | _ | _ | _ | _ | _ | _ | _ | _ | j_ <;> exact h
          refine wp_region_tail7 (by kernel_rfl) (fun i => ([[], [], [1], [], [3], [], [5], [], [7], [], [9], [], [11], [9, 10, 11, 12], [9, 10, 11, 12, 13], [], [15], [9, 10, 11, 12, 13, 14, 15, 16], [9, 10, 11, 12, 13, 14, 15, 16, 17], [5, 6, 7, 8, 9, 10, 11, 12, 13, 14, 15, 16, 17, 18], [1, 2, 3, 4, 5, 6, 7, 8, 9, 10, 11, 12, 13, 14, 15, 16, 17, 18, 19], [1, 2, 3, 4, 5, 6, 7, 8, 9, 10, 11, 12, 13, 14, 15, 16, 17, 18, 19, 20], [0, 1, 2, 3, 4, 5, 6, 7, 8, 9, 10, 11, 12, 13, 14, 15, 16, 17, 18, 19, 20, 21], [0, 1, 2, 3, 4, 5, 6, 7, 8, 9, 10, 11, 12, 13, 14, 15, 16, 17, 18, 19, 20, 21, 22]] : List (List Nat)).getD i []) (facts [FEq (u7), FEq (.pointer (some ⟨eb, 1, none⟩)), FEq (.int .i64 (i : Int)), FEq (.pointer (some ⟨eb, 2, none⟩)), FEq (.int .i64 (m : Int)), FEq (.pointer (some ⟨w.heap.size, 0, none⟩)), FEq (.slice a0 n0 c0), FEq (.pointer (some ⟨eb, 1, none⟩)), FEq (.int .i64 (i : Int)), FEq (.pointer (some ⟨w.heap.size, 2, none⟩)), FEq (.slice (some ⟨b2, o2, none⟩) 3 c2), FEq (.pointer (some ⟨eb, 1, none⟩)), FEq (.int .i64 (i : Int)), FEq (.pointer (some ⟨b2, o2 + i, none⟩)), FEq (.slice (some ⟨b3, o3, none⟩) n3 c3), FEq (.pointer (some ⟨eb, 2, none⟩)), FEq (.int .i64 (m : Int)), FEq (.pointer (some ⟨b3, o3 + m * 7, none⟩)), FEq (.agg #[.int .i64 x.id, .int .i64 x.kind, .int .i64 x.addr, .int .i64 x.many, .bool x.wrap, .slice da dn dc, .slice la ln lc]), FAny, FAny, FAny]) (fun ls u n_ w' => TelI w7 x.id (atmDo c.map S.1.mem S.1.holds (i : Int) x) (i : Int) (m : Int) (.slice xa xn xc) (.slice ya yn yc) d0 d1 S.1.mem S.1.holds (ls 19) (ls 20) (ls 21) (u 19) (u 20) (u 21) w') 64 24 22 [some 37, some 38, some 39, some 40, some 41, some 42, some 43, some 44, some 45, some 46, some 47, some 48, some 49, some 50, some 51, some 52, some 53, some 54, some 55, some 56, some 57, some 58] _ rfl rfl (by decide) rfl rfl (by kernel_rfl) (by kernel_rfl) [] (by kernel_rfl) (fun g b hm v w h => by simp at hm) ?h0 (all_lt (n := 22) ?hop) ?hend
          case h0 => exact fun ls u hl => TelI.start HS.out.mem HS.out.hol HS.out.fr (hl 19)
          case hop =>
           refine ⟨⟨⟨⟨⟨⟨⟨⟨⟨⟨⟨⟨⟨⟨⟨⟨⟨⟨⟨⟨⟨⟨trivial, ?_⟩, ?_⟩, ?_⟩, ?_⟩, ?_⟩, ?_⟩, ?_⟩, ?_⟩, ?_⟩, ?_⟩, ?_⟩, ?_⟩, ?_⟩, ?_⟩, ?_⟩, ?_⟩, ?_⟩, ?_⟩, ?_⟩, ?_⟩, ?_⟩, ?_⟩
           · refine Owes7.mk _ rfl rfl (fun _ _ h => by cases h) fun u n_ w' hm ls hI hli hld hlT hR => ⟨⟨(frm 64 [(7, u7)]).toArray, []⟩, rfl, fun d hd => by cases hd; exact frm_lt (by decide), ?_⟩
             dsimp only [frm, List.foldl, List.replicate, List.set]
             have HI := Lib.hid hI
             clear hI hR hld hlT
             go_wp2
             exact ⟨rfl, _, rfl, rfl, HI.out, fun j_ y_ _ _ hx => hk _ _ j_ y_ hx⟩
           · refine Owes7.mk _ rfl rfl (fun _ _ h => by cases h) fun u n_ w' hm ls hI hli hld hlT hR => ⟨⟨(frm 64 [(9, .pointer (some ⟨eb, 0, none⟩))]).toArray, []⟩, rfl, fun d hd => by cases hd; exact frm_lt (by decide), ?_⟩
             dsimp only [frm, List.foldl, List.replicate, List.set]
             have HI := Lib.hid hI
             clear hI hR hld hlT
             go_wp2
             exact ⟨rfl, _, rfl, rfl, HI.out, fun j_ y_ _ _ hx => hk _ _ j_ y_ hx⟩
           · refine Owes7.mk _ rfl rfl (fun _ _ h => by cases h) fun u n_ w' hm ls hI hli hld hlT hR => ⟨⟨(frm 64 [(38, u 1)]).toArray, []⟩, rfl, fun d hd => by cases hd; exact frm_lt (by decide), ?_⟩
             dsimp only [frm, List.foldl, List.replicate, List.set]
             have z_v1_ := keep_cell_chg hI.bel v1_ NE
             have ev1 : u 1 = _ := hR 1 (by decide)
             rw [ev1]
             have HI := Lib.hid hI
             clear hI hR hld hlT ev1
             go_wp2
             exact ⟨rfl, _, rfl, rfl, HI.out, fun j_ y_ _ _ hx => hk _ _ j_ y_ hx⟩
           · refine Owes7.mk _ rfl rfl (fun _ _ h => by cases h) fun u n_ w' hm ls hI hli hld hlT hR => ⟨⟨(frm 64 [(9, .pointer (some ⟨eb, 0, none⟩))]).toArray, []⟩, rfl, fun d hd => by cases hd; exact frm_lt (by decide), ?_⟩
             dsimp only [frm, List.foldl, List.replicate, List.set]
             have HI := Lib.hid hI
             clear hI hR hld hlT
             go_wp2
             exact ⟨rfl, _, rfl, rfl, HI.out, fun j_ y_ _ _ hx => hk _ _ j_ y_ hx⟩
           · refine Owes7.mk _ rfl rfl (fun _ _ h => by cases h) fun u n_ w' hm ls hI hli hld hlT hR => ⟨⟨(frm 64 [(40, u 3)]).toArray, []⟩, rfl, fun d hd => by cases hd; exact frm_lt (by decide), ?_⟩
             dsimp only [frm, List.foldl, List.replicate, List.set]
             have z_v2_ := keep_cell_chg hI.bel v2_ NE
             have ev3 : u 3 = _ := hR 3 (by decide)
             rw [ev3]
             have HI := Lib.hid hI
             clear hI hR hld hlT ev3
             go_wp2
             exact ⟨rfl, _, rfl, rfl, HI.out, fun j_ y_ _ _ hx => hk _ _ j_ y_ hx⟩
           · refine Owes7.mk _ rfl rfl (fun _ _ h => by cases h) fun u n_ w' hm ls hI hli hld hlT hR => ⟨⟨(frm 64 [(2, .pointer (some ⟨w.heap.size, 0, none⟩))]).toArray, []⟩, rfl, fun d hd => by cases hd; exact frm_lt (by decide), ?_⟩
             dsimp only [frm, List.foldl, List.replicate, List.set]
             have HI := Lib.hid hI
             clear hI hR hld hlT
             go_wp2
             exact ⟨rfl, _, rfl, rfl, HI.out, fun j_ y_ _ _ hx => hk _ _ j_ y_ hx⟩
           · refine Owes7.mk _ rfl rfl (fun _ _ h => by cases h) fun u n_ w' hm ls hI hli hld hlT hR => ⟨⟨(frm 64 [(42, u 5)]).toArray, []⟩, rfl, fun d hd => by cases hd; exact frm_lt (by decide), ?_⟩
             dsimp only [frm, List.foldl, List.replicate, List.set]
             have z_x0 := keep_cell_chg hI.bel x0 NX
             have ev5 : u 5 = _ := hR 5 (by decide)
             rw [ev5]
             have HI := Lib.hid hI
             clear hI hR hld hlT ev5
             go_wp2
             exact ⟨rfl, _, rfl, rfl, HI.out, fun j_ y_ _ _ hx => hk _ _ j_ y_ hx⟩
           · refine Owes7.mk _ rfl rfl (fun _ _ h => by cases h) fun u n_ w' hm ls hI hli hld hlT hR => ⟨⟨(frm 64 [(9, .pointer (some ⟨eb, 0, none⟩))]).toArray, []⟩, rfl, fun d hd => by cases hd; exact frm_lt (by decide), ?_⟩
             dsimp only [frm, List.foldl, List.replicate, List.set]
             have HI := Lib.hid hI
             clear hI hR hld hlT
             go_wp2
             exact ⟨rfl, _, rfl, rfl, HI.out, fun j_ y_ _ _ hx => hk _ _ j_ y_ hx⟩
           · refine Owes7.mk _ rfl rfl (fun _ _ h => by cases h) fun u n_ w' hm ls hI hli hld hlT hR => ⟨⟨(frm 64 [(44, u 7)]).toArray, []⟩, rfl, fun d hd => by cases hd; exact frm_lt (by decide), ?_⟩
             dsimp only [frm, List.foldl, List.replicate, List.set]
             have z_v1_ := keep_cell_chg hI.bel v1_ NE
             have ev7 : u 7 = _ := hR 7 (by decide)
             rw [ev7]
             have HI := Lib.hid hI
             clear hI hR hld hlT ev7
             go_wp2
             exact ⟨rfl, _, rfl, rfl, HI.out, fun j_ y_ _ _ hx => hk _ _ j_ y_ hx⟩
           · refine Owes7.mk _ rfl rfl (fun _ _ h => by cases h) fun u n_ w' hm ls hI hli hld hlT hR => ⟨⟨(frm 64 [(2, .pointer (some ⟨w.heap.size, 0, none⟩))]).toArray, []⟩, rfl, fun d hd => by cases hd; exact frm_lt (by decide), ?_⟩
             dsimp only [frm, List.foldl, List.replicate, List.set]
             have HI := Lib.hid hI
             clear hI hR hld hlT
             go_wp2
             exact ⟨rfl, _, rfl, rfl, HI.out, fun j_ y_ _ _ hx => hk _ _ j_ y_ hx⟩
           · refine Owes7.mk _ rfl rfl (fun _ _ h => by cases h) fun u n_ w' hm ls hI hli hld hlT hR => ⟨⟨(frm 64 [(46, u 9)]).toArray, []⟩, rfl, fun d hd => by cases hd; exact frm_lt (by decide), ?_⟩
             dsimp only [frm, List.foldl, List.replicate, List.set]
             have z_x2 := keep_cell_chg hI.bel x2 NX
             have ev9 : u 9 = _ := hR 9 (by decide)
             rw [ev9]
             have HI := Lib.hid hI
             clear hI hR hld hlT ev9
             go_wp2
             exact ⟨rfl, _, rfl, rfl, HI.out, fun j_ y_ _ _ hx => hk _ _ j_ y_ hx⟩
           · refine Owes7.mk _ rfl rfl (fun _ _ h => by cases h) fun u n_ w' hm ls hI hli hld hlT hR => ⟨⟨(frm 64 [(9, .pointer (some ⟨eb, 0, none⟩))]).toArray, []⟩, rfl, fun d hd => by cases hd; exact frm_lt (by decide), ?_⟩
             dsimp only [frm, List.foldl, List.replicate, List.set]
             have HI := Lib.hid hI
             clear hI hR hld hlT
             go_wp2
             exact ⟨rfl, _, rfl, rfl, HI.out, fun j_ y_ _ _ hx => hk _ _ j_ y_ hx⟩
           · refine Owes7.mk _ rfl rfl (fun _ _ h => by cases h) fun u n_ w' hm ls hI hli hld hlT hR => ⟨⟨(frm 64 [(48, u 11)]).toArray, []⟩, rfl, fun d hd => by cases hd; exact frm_lt (by decide), ?_⟩
             dsimp only [frm, List.foldl, List.replicate, List.set]
             have z_v1_ := keep_cell_chg hI.bel v1_ NE
             have ev11 : u 11 = _ := hR 11 (by decide)
             rw [ev11]
             have HI := Lib.hid hI
             clear hI hR hld hlT ev11
             go_wp2
             exact ⟨rfl, _, rfl, rfl, HI.out, fun j_ y_ _ _ hx => hk _ _ j_ y_ hx⟩
           · refine Owes7.mk _ rfl rfl (fun _ _ h => by cases h) fun u n_ w' hm ls hI hli hld hlT hR => ⟨⟨(frm 64 [(47, u 10), (49, u 12)]).toArray, []⟩, rfl, fun d hd => by cases hd; exact frm_lt (by decide), ?_⟩
             dsimp only [frm, List.foldl, List.replicate, List.set]
             have ev10 : u 10 = _ := hR 10 (by decide)
             have ev12 : u 12 = _ := hR 12 (by decide)
             rw [ev10, ev12]
             have HI := Lib.hid hI
             clear hI hR hld hlT ev10 ev12
             go_wp2
             exact ⟨rfl, _, rfl, rfl, HI.out, fun j_ y_ _ _ hx => hk _ _ j_ y_ hx⟩
           · refine Owes7.mk _ rfl rfl (fun _ _ h => by cases h) fun u n_ w' hm ls hI hli hld hlT hR => ⟨⟨(frm 64 [(50, u 13)]).toArray, []⟩, rfl, fun d hd => by cases hd; exact frm_lt (by decide), ?_⟩
             dsimp only [frm, List.foldl, List.replicate, List.set]
             have z_d0_ := keep_cell_chg hI.bel d0_ N2
             have ev13 : u 13 = _ := hR 13 (by decide)
             rw [ev13]
             have HI := Lib.hid hI
             clear hI hR hld hlT ev13
             go_wp2
             exact ⟨rfl, _, rfl, rfl, HI.out, fun j_ y_ _ _ hx => hk _ _ j_ y_ hx⟩
           · refine Owes7.mk _ rfl rfl (fun _ _ h => by cases h) fun u n_ w' hm ls hI hli hld hlT hR => ⟨⟨(frm 64 [(9, .pointer (some ⟨eb, 0, none⟩))]).toArray, []⟩, rfl, fun d hd => by cases hd; exact frm_lt (by decide), ?_⟩
             dsimp only [frm, List.foldl, List.replicate, List.set]
             have HI := Lib.hid hI
             clear hI hR hld hlT
             go_wp2
             exact ⟨rfl, _, rfl, rfl, HI.out, fun j_ y_ _ _ hx => hk _ _ j_ y_ hx⟩
           · refine Owes7.mk _ rfl rfl (fun _ _ h => by cases h) fun u n_ w' hm ls hI hli hld hlT hR => ⟨⟨(frm 64 [(52, u 15)]).toArray, []⟩, rfl, fun d hd => by cases hd; exact frm_lt (by decide), ?_⟩
             dsimp only [frm, List.foldl, List.replicate, List.set]
             have z_v2_ := keep_cell_chg hI.bel v2_ NE
             have ev15 : u 15 = _ := hR 15 (by decide)
             rw [ev15]
             have HI := Lib.hid hI
             clear hI hR hld hlT ev15
             go_wp2
             exact ⟨rfl, _, rfl, rfl, HI.out, fun j_ y_ _ _ hx => hk _ _ j_ y_ hx⟩
           · refine Owes7.mk _ rfl rfl (fun _ _ h => by cases h) fun u n_ w' hm ls hI hli hld hlT hR => ⟨⟨(frm 64 [(51, u 14), (53, u 16)]).toArray, []⟩, rfl, fun d hd => by cases hd; exact frm_lt (by decide), ?_⟩
             dsimp only [frm, List.foldl, List.replicate, List.set]
             have ev14 : u 14 = _ := hR 14 (by decide)
             have ev16 : u 16 = _ := hR 16 (by decide)
             rw [ev14, ev16]
             have HI := Lib.hid hI
             clear hI hR hld hlT ev14 ev16
             go_wp2
             exact ⟨rfl, _, rfl, rfl, HI.out, fun j_ y_ _ _ hx => hk _ _ j_ y_ hx⟩
           · refine Owes7.mk _ rfl rfl (fun _ _ h => by cases h) fun u n_ w' hm ls hI hli hld hlT hR => ⟨⟨(frm 64 [(54, u 17)]).toArray, []⟩, rfl, fun d hd => by cases hd; exact frm_lt (by decide), ?_⟩
             dsimp only [frm, List.foldl, List.replicate, List.set]
             have z_q0_ := keep_cell_chg hI.bel q0_ N3
             have z_q1_ := keep_cell_chg hI.bel q1_ N3
             have z_q2_ := keep_cell_chg hI.bel q2_ N3
             have z_q3_ := keep_cell_chg hI.bel q3_ N3
             have z_q4_ := keep_cell_chg hI.bel q4_ N3
             have z_q5_ := keep_cell_chg hI.bel q5_ N3
             have z_q6_ := keep_cell_chg hI.bel q6_ N3
             have ev17 : u 17 = _ := hR 17 (by decide)
             rw [ev17]
             have HI := Lib.hid hI
             clear hI hR hld hlT ev17
             go_wp2
             exact ⟨rfl, _, rfl, rfl, HI.out, fun j_ y_ _ _ hx => hk _ _ j_ y_ hx⟩
           · refine Owes7.mk _ rfl rfl (fun _ _ h => by cases h) fun u n_ w' hm ls hI hli hld hlT hR => ⟨⟨(frm 64 [(6, .pointer (some ⟨sb, 0, none⟩)), (43, u 6), (45, u 8), (55, u 18)]).toArray, []⟩, rfl, fun d hd => by cases hd; exact frm_lt (by decide), ?_⟩
             dsimp only [frm, List.foldl, List.replicate, List.set]
             have ev6 : u 6 = _ := hR 6 (by decide)
             have ev8 : u 8 = _ := hR 8 (by decide)
             have ev18 : u 18 = _ := hR 18 (by decide)
             rw [ev6, ev8, ev18]
             have l20 : ls 20 = false := by
              cases e : ls 20 with
              | false => rfl
              | true => have := hld 20 e 19 (by decide); rw [hli] at this; cases this
             have l21 : ls 21 = false := by
              cases e : ls 21 with
              | false => rfl
              | true => have := hld 21 e 19 (by decide); rw [hli] at this; cases this
             obtain ⟨gw, gh⟩ := hI.pre hli
             have GWx := Lib.hid gw
             have GHx := Lib.hid gh
             have GMx := Lib.hid (HG0.out.chg mrR_fits hI.bel N0.out)
             have G0x := Lib.hid (HD.out.chg intR_fits hI.bel (fun b hb => ND.out b (by simp [hb])))
             have G1x := Lib.hid (HL.out.chg intR_fits hI.bel (fun b hb => ND.out b (by simp [hb])))
             have C0 := Lib.hid (keep_cell_chg hI.bel T0.out HNS.out)
             have C1 := Lib.hid (keep_cell_chg hI.bel T1.out HNS.out)
             have FRx := Lib.hid hI.fr
             have HI := Lib.hid hI
             have L20 := Lib.hid l20
             have L21 := Lib.hid l21
             clear hI hR hli hld hlT l20 l21 gw gh
             go_wp2_with fail
             refine (iDo_any c.map S.1.mem S.1.holds x (i : Int) sb _ _ _ _ _ fp0 d0 d1 df lf HOK.out.ml HOK.out.hl (by omega) (by omega) HROK.out HOK.out.mw _ C0.out C1.out GMx.out GWx.out GHx.out G0x.out G1x.out FRx.out DJ.out N0.out (fun b hb => ND.out b (by simp [hb])) (fun b hb => ND.out b (by simp [hb])) HNS.out).mono ?_
             rintro e w8 ⟨dv, fd, rfl, g0, g1, g2, gn, gc, gf⟩
             obtain ⟨ga, gl, gk, rfl⟩ := g2.form
             have HH := Lib.hid (HI.out.call L20.out L21.out g0 g1 g2 gn gc gf)
             clear g0 g1 g2 gn gc gf
             go_wp2
             exact ⟨rfl, _, rfl, trivial, HH.out, fun j_ y_ _ _ hx => hk _ _ j_ y_ hx⟩
           · refine Owes7.mk _ rfl rfl (fun _ _ h => by cases h) fun u n_ w' hm ls hI hli hld hlT hR => ⟨⟨(frm 64 [(39, u 2), (41, u 4), (56, u 19)]).toArray, []⟩, rfl, fun d hd => by cases hd; exact frm_lt (by decide), ?_⟩
             dsimp only [frm, List.foldl, List.replicate, List.set]
             have ev2 : u 2 = _ := hR 2 (by decide)
             have ev4 : u 4 = _ := hR 4 (by decide)
             rw [ev2, ev4]
             have l21 : ls 21 = false := by
              cases e : ls 21 with
              | false => rfl
              | true => have := hld 21 e 20 (by decide); rw [hli] at this; cases this
             obtain ⟨ga, gl, gk, e19, hH⟩ := hI.told (hlT 19 (by decide)) l21
             rw [e19] at hH
             rw [e19]
             have HH := Lib.hid hH
             clear hI hR hli hld hlT hH e19 l21
             go_wp2
             exact ⟨rfl, _, rfl, trivial, HH.out, fun j_ y_ _ _ hx => hk _ _ j_ y_ hx⟩
           · refine Owes7.mk _ rfl rfl (fun _ _ h => by cases h) fun u n_ w' hm ls hI hli hld hlT hR => ⟨⟨(frm 64 [(57, u 20)]).toArray, []⟩, rfl, fun d hd => by cases hd; exact frm_lt (by decide), ?_⟩
             dsimp only [frm, List.foldl, List.replicate, List.set]
             obtain ⟨ga, gl, gk, e20, hH⟩ := hI.laid (hlT 19 (by decide)) (hlT 20 (by decide))
             rw [e20] at hH
             rw [e20]
             have HH := Lib.hid hH
             clear hI hR hli hld hlT hH e20
             go_wp2
             exact ⟨rfl, _, rfl, trivial, HH.out, fun j_ y_ _ _ hx => hk _ _ j_ y_ hx⟩
          case hend =>
           intro ls u w' hls hI hR
           simp only [setAll, List.set_cons_zero, List.set_cons_succ]
           have e0 : u 0 = _ := hR 0 (by decide)
           obtain ⟨ga, gl, gk, fd, e19, g0, g1, g2, gn, gd, -, h21⟩ := hI.post (hls 19 (by decide))
           obtain ⟨q, e21, hq, hqc⟩ := h21 (hls 21 (by decide))
           rw [e0, e21]
           obtain ⟨rows, fps, hown⟩ := HS.out.own
           have hb5 := HS.out.ch.size
           have hlow : ∀ b, b ∈ d0 ++ d1 -> b < w5.heap.size := fun b hb => by have := NL.out b hb; have := HZ5.out; omega
           have hown' := hown.chg jobR_fits hI.bel (fun b hb => ⟨fun e => by have := hlow b hb; rcases hown.own.2 with ⟨q', -⟩ | ⟨g', cap', cur', q', hg', -⟩ <;> rw [q'] at e <;> simp [Value.ownBlock] at e; omega, fun e => by have := hown.lo b e; have := hlow b hb; omega⟩)
           have hlt7 := hown.ltBlock
           have hfp7 := hown.lt jobR_fits
           have hbel := hI.bel
           have hfr := hI.fr
           have hI_ := hI.lt
           refine wpList_pushQ (R := jobR) (K := 5) (v := u7) (l := S.2) (base := w5.heap.size) (x := ⟨(i : Int), (m : Int), ⟨x.id, (atmDo c.map S.1.mem S.1.holds (i : Int) x).code, (atmDo c.map S.1.mem S.1.holds (i : Int) x).data⟩⟩) (cs := [.int .i64 (i : Int), .int .i64 (m : Int), .int .i64 x.id, .int .i64 (atmDo c.map S.1.mem S.1.holds (i : Int) x).code, .slice ga gl gk]) (f := fd) rfl _ _ 34 69 i0 (.agg #[.int .i64 0, .int .i64 0, .int .i64 0, .int .i64 0, .slice none 0 0]) 56 jobR_fits rfl Tryz.underlying34 hi hz0 hz1 hz2 rfl (by decide) (by decide) rfl rfl hown' ⟨_, fd, rfl, rfl, g2⟩ (fun b hb => Nat.le_trans hb5 (gn.lo b hb)) gn.once gn.free (fun b hb => ⟨fun e => by have := hlt7 b e; have := gn.lo b hb; omega, fun e => by have := hfp7 b e; have := gn.lo b hb; omega⟩) (fun j hj => by rw [add_plain, Nat.zero_add]; exact hqc j hj) (by simp [Value.oneCell']) (by have := HOK.out.jl; have := Q1.out; omega) (Nat.le_trans hb5 hbel.size) ?_
           intro v' wb rows' ho' hb' hk' hbk'
           have hkk : ∀ b, b ∈ d0 ++ d1 -> wb.heap[b]? = w'.heap[b]? := fun b hb => hb'.block b (hlow b hb)
           have HV : Hid (IoI w5 (.slice xa xn xc) (.slice ya yn yc) d0 d1 (ordDo c S ⟨kd, (i : Int), (m : Int)⟩ x) v' wb) := Lib.hid ⟨(HS.out.ch.trans' hbel).onto hb', g0.same intR_fits (fun b hb => hkk b (by simp [hb])) hb'.size, g1.same intR_fits (fun b hb => hkk b (by simp [hb])) hb'.size, hfr.same hkk, ⟨rows', _, ho'⟩⟩
           clear hR hls hI hk e0 e19 e21 g0 g1 g2 gn gd h21 hq hqc hown hown' hb5 hlow hlt7 hfp7 hbel hfr hI_ ho' hb' hk' hbk' hkk x0 x2 v1_ v2_ d0_ q0_ q1_ q2_ q3_ q4_ q5_ q6_
           go_wp2
           go_roundw
           case rel => exact ⟨k + 1, by omega, by go_num, by rw [HYES.out]; exact HV.out⟩
           case measure => simp [intOf]; omega
    · obtain rfl : k = ne := by omega
      have hall : l.take k = l := List.take_of_length_le (by rw [hn.out]; exact Nat.le_refl _)
      have hs := HS.out
      rw [hall] at hs
      obtain ⟨ja, jn, jc, rfl, hjl, hjc, hjm⟩ := hs.own.slice
      have hcw := hs.ch
      have NS : sb ∉ d0 ++ d1 := fun hm => by have := NL.out _ hm; omega
      have NT : w.heap.size + 1 ∉ d0 ++ d1 := fun hm => by have := NW.out _ hm; omega
      have t0 := keep_cell_chg hcw t0_ NS
      have t1 := keep_cell_chg hcw t1_ NS
      have HRA := Lib.hid (RA.out.chg hcw NT)
      have HBr := Lib.hid (((HB.out.chg (d0 ++ d1)).trans' hcw).home (fun b hb => by have := NW.out b hb; omega))
      have HJC := Lib.hid hjc
      have HJM := Lib.hid hjm
      have HS2 := Lib.hid hs
      have hlow : Hid (∀ b, b ∈ d0 ++ d1 -> b < w5.heap.size) := Lib.hid fun b hb => by have := NL.out b hb; have := HZ5.out; omega
      clear hs hcw hjl hjc hjm HS NS NT
      go_upto_region 11 with fail
      have hst : ∀ F, F ∈ [FEq (.agg #[.slice xa xn xc, .slice ya yn yc]), FEq (.slice ja jn jc), FEq (.slice ja jn jn)] -> Stable [] F := by
       simp only [List.forall_mem_cons]
       exact ⟨stEq _ _, stEq _ _, stEq _ _, fun _ h => by simp at h⟩
      refine wp_region_tail (by kernel_rfl) (fun i => (tbAtmOrder11 : List (List Nat)).getD i []) (facts [FEq (.agg #[.slice xa xn xc, .slice ya yn yc]), FEq (.slice ja jn jc), FEq (.slice ja jn jn)]) (fun m w' => Below wr.heap.size wr w') 64 5 3 [some 61, some 62, some 63] _ rfl rfl (by decide) rfl rfl (by kernel_rfl) (by kernel_rfl) [] (by kernel_rfl) (fun g b hm v w h => by simp at hm) ?h0 (all_lt (n := 3) ?hop) ?hend
      case h0 => exact (Below.refl _ _).drew
      case hop =>
       refine ⟨⟨⟨trivial, ?_⟩, ?_⟩, ?_⟩
       · refine Owes.q 64 (fun u => [(6, .pointer (some ⟨sb, 0, none⟩))]) fun u w' hI hR => ?_; dsimp only [frm, List.foldl, List.replicate, List.set]; obtain ⟨_, hI⟩ := hI; have k0 := keep_cell hI t0; have k1 := keep_cell hI t1; clear hI hst hR; go_wp2; exact ⟨rfl, _, rfl, rfl, rfl⟩
       · refine Owes.q 64 (fun u => [(7, .slice ja jn jc)]) fun u w' hI hR => ?_; dsimp only [frm, List.foldl, List.replicate, List.set]; clear hI hst hR; go_wp2; exact ⟨rfl, _, rfl, rfl, rfl⟩
       · refine Owes.mk _ rfl rfl (fun _ _ h => by cases h) fun u m w' hm hI hR => ⟨⟨(frm 64 [(62, u 1)]).toArray, []⟩, rfl, fun d hd => by cases hd; exact frm_lt (by decide), ?_⟩
         dsimp only [frm, List.foldl, List.replicate, List.set]
         have e1 : u 1 = _ := hR 1 (by decide)
         have k0 := keep_cell hI t0
         have k1 := keep_cell hI t1
         rw [e1]
         clear e1
         have HI := Lib.hid hI
         clear hI hR hst
         go_wp2_with fail
         refine (slClipJ _ _ _ HJC.out HJM.out _).mono ?_
         rintro e w9 ⟨rfl, rfl⟩
         go_wp2
         exact ⟨rfl, _, rfl, rfl, HI.out, fun _ _ h => h⟩
      case hend =>
       intro u w' hI hR
       simp only [setAll, List.set_cons_zero, List.set_cons_succ]
       have e0 : u 0 = _ := hR 0 (by decide)
       have e2 : u 2 = _ := hR 2 (by decide)
       rw [e0, e2]
       have hRA := HRA.out.below hI
       obtain ⟨z0, r0⟩ := hRA.2.1 0 (by omega)
       obtain ⟨z1, r1⟩ := hRA.2.1 1 (by omega)
       have q0 := hRA.2.2 0
       have q1 := hRA.2.2 1
       have HSb := Lib.hid (HS2.out.below hI)
       have HBb := Lib.hid (HBr.out.trans (hI.mono HBr.out.size))
       clear hR hst e0 e2 hRA hI
       go_wp2
       have hc : Chg [w.heap.size + 1] w' ((w'.setCell ⟨w.heap.size + 1, 0, none⟩ (.slice xa xn xc)).setCell ⟨w.heap.size + 1, 1, none⟩ (.slice ya yn yc)) := (store_chg _).trans' (store_chg _)
       obtain ⟨fj, g2, lo2, on2, fr2⟩ := HSb.out.own.reads jobR_fits
       have hlt2 := g2.lt jobR_fits
       have n0 : ∀ b, b ∈ d0 ++ d1 -> b ∉ [w.heap.size + 1] := fun b hb e => by have := NW.out b hb; simp at e; omega
       have n2 : ∀ b, b ∈ fj -> b ∉ [w.heap.size + 1] := fun b hb e => by have := lo2 b hb; have := HZ5.out; have := HZ.out; simp at e; omega
       refine bodyPost_ret (v := .tuple #[.agg #[.slice xa xn xc, .slice ya yn yc], .slice ja jn jn]) (by simp [results, Tryz.results9, go_sem, put2a_0 _ _ r0, put2a_1 _ _ r1]) rfl ?_
       rw [HR.out]
       exact ⟨_, _, _, d0, d1, fj, rfl, HSb.out.mem.chg intR_fits hc (fun b hb => n0 b (by simp [hb])), HSb.out.hol.chg intR_fits hc (fun b hb => n0 b (by simp [hb])), g2.clip.chg jobR_fits hc n2,
        ⟨fun b hb => by
         rcases List.mem_append.1 hb with hb | hb
         · have := NW.out b hb; omega
         · have := lo2 b hb; have := HZ5.out; have := HZ.out; omega, nodup_app NO.out on2 fun b hb hb' => by have := lo2 b hb'; have := hlow.out b hb; omega, (HSb.out.fr.chg HSb.out.lt hc n0).app' (fr2.chg hlt2 hc n2)⟩, ((HBb.out.chg [w.heap.size + 1]).trans' hc).home (fun b hb => by simp at hb; omega)⟩
 · have HN := Lib.hid (atmOrder_noI hok)
   cases q0 : busOk c
   · have Q0 := Lib.hid q0
     clear q0 hok y0 y1
     go_enter Tryz.func9, Tryz.ntmps9
     go_upto_region 1 with fail
     rw [<- hw1]
     clear hw1
     go_wp2_with (go_at_call 31; refine (iBusOk_any c _ _ _ fp0 fp1 fp2 _ G0.out G1.out G2.out).mono ?_; rw [Q0.out]; rintro e w3 ⟨rfl, b⟩; replace GE := Lib.hid (SlR.below evR_fits GE.out b); replace RA := Lib.hid (RA.out.below b); replace HB := Lib.hid (HB.out.trans (b.mono HB.out.size)); obtain ⟨t0, r0⟩ := RA.out.2.1 0 (by omega); obtain ⟨t1, r1⟩ := RA.out.2.1 1 (by omega); have q0 := RA.out.2.2 0; have q1 := RA.out.2.2 1; clear b)
     have hc : Chg [w.heap.size + 1] w3 ((w3.setCell ⟨w.heap.size + 1, 0, none⟩ (.slice none 0 0)).setCell ⟨w.heap.size + 1, 1, none⟩ (.slice none 0 0)) := (store_chg _).trans' (store_chg _)
     refine bodyPost_ret (v := .tuple #[.agg #[.slice none 0 0, .slice none 0 0], .slice none 0 0]) (by simp [results, Tryz.results9, go_sem, put2a_0 _ _ r0, put2a_1 _ _ r1]) rfl ?_
     rw [HN.out]
     exact ⟨_, _, _, [], [], [], rfl, sl_noneI _, sl_noneI _, sl_noneI _, New.nil _ _, ((HB.out.chg [w.heap.size + 1]).trans' hc).home (fun b hb => by simp at hb; omega)⟩
   · have hgt : (ne : Int) > 108 := by have := hn.out; have : ¬ l.length <= 108 := fun h => hok ⟨q0, h⟩; omega
     have Q0 := Lib.hid q0
     clear q0 hok y0 y1
     go_enter Tryz.func9, Tryz.ntmps9
     go_upto_region 1 with fail
     rw [<- hw1]
     clear hw1
     go_wp2_with (go_at_call 31; refine (iBusOk_any c _ _ _ fp0 fp1 fp2 _ G0.out G1.out G2.out).mono ?_; rw [Q0.out]; rintro e w3 ⟨rfl, b⟩; replace GE := Lib.hid (SlR.below evR_fits GE.out b); replace RA := Lib.hid (RA.out.below b); replace HB := Lib.hid (HB.out.trans (b.mono HB.out.size)); obtain ⟨t0, r0⟩ := RA.out.2.1 0 (by omega); obtain ⟨t1, r1⟩ := RA.out.2.1 1 (by omega); have q0 := RA.out.2.2 0; have q1 := RA.out.2.2 1; clear b)
     have hc : Chg [w.heap.size + 1] w3 ((w3.setCell ⟨w.heap.size + 1, 0, none⟩ (.slice none 0 0)).setCell ⟨w.heap.size + 1, 1, none⟩ (.slice none 0 0)) := (store_chg _).trans' (store_chg _)
     refine bodyPost_ret (v := .tuple #[.agg #[.slice none 0 0, .slice none 0 0], .slice none 0 0]) (by simp [results, Tryz.results9, go_sem, put2a_0 _ _ r0, put2a_1 _ _ r1]) rfl ?_
     rw [HN.out]
     exact ⟨_, _, _, [], [], [], rfl, sl_noneI _, sl_noneI _, sl_noneI _, New.nil _ _, ((HB.out.chg [w.heap.size + 1]).trans' hc).home (fun b hb => by simp at hb; omega)⟩
end Go.Proofs.YtaeiddoccfaheaaGreat
