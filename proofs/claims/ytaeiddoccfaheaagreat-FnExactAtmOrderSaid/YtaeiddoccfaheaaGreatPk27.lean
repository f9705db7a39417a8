/-
 Texts of this claim laid together: IDo.
-/
import Derived.Test.YtaeiddoccfaheaaGreatPk20
import Derived.Test.YtaeiddoccfaheaaGreatPk24
import Derived.Test.YtaeiddoccfaheaaGreatPk25
import Derived.Deep.DeepCutAuto
import Derived.Test.YtaeiddoccfaheaaGreatPk03
import Derived.Test.YtaeiddoccfaheaaGreatPk26
set_option linter.unusedVariables false
set_option linter.unusedSimpArgs false
namespace Go.Proofs.YtaeiddoccfaheaaGreat
def tbdo29 : List (List Nat) := [[], [0], [0, 1], [0, 1, 2], [0, 1, 2, 3], [], [], [6], [6, 7], [6, 7, 8], [6, 7, 8, 9], [], [6, 7, 8, 9, 10, 11], [6, 7, 8, 9, 10, 11, 12], [], [14], [], [14, 15, 16], [14, 15, 16, 17], [], [19], [], [19, 20, 21], [19, 20, 21, 22], [6, 7, 8, 9, 10, 11, 12, 13, 14, 15, 16, 17, 18, 19, 20, 21, 22, 23], [0, 1, 2, 3, 4, 5, 6, 7, 8, 9, 10, 11, 12, 13, 14, 15, 16, 17, 18, 19, 20, 21, 22, 23, 24], [0, 1, 2, 3, 4, 5, 6, 7, 8, 9, 10, 11, 12, 13, 14, 15, 16, 17, 18, 19, 20, 21, 22, 23, 24, 25]]
open Go.RowKit Go.ChangeShapes Go.WideShapes
set_option maxRecDepth 100000 in
set_option maxHeartbeats 25600000 in
theorem iDo_any (l : List MR) (ms hs : List Int) (r : Req) (who : Int) (sb : Nat) (vm vw vh v0 v1 : Value) (fm fw fh f0 f1 : List Nat) (hms : ms.length = 64) (hhs : hs.length = 6) (hw0 : 0 <= who) (hw2 : who <= 2) (hok : reqOk r = true) (hmw : ∀ n, n ∈ ms -> 0 <= n ∧ n <= 65535) (w : World)
 (c0 : w.cell? ⟨sb, 0, none⟩ = some vw) (c1 : w.cell? ⟨sb, 1, none⟩ = some vh) (gm : SlR 4 mrR w l vm fm) (gw : IntS w ms vw fw) (gh : IntS w hs vh fh) (g0 : IntS w r.data v0 f0) (g1 : IntS w r.lanes v1 f1) (fr : Free (fw ++ fh) w) (dj : ∀ b, b ∈ fw -> b ∉ fh) (nm : ∀ b, b ∈ fm -> b ∉ fw ++ fh) (n0 : ∀ b, b ∈ f0 -> b ∉ fw ++ fh) (n1 : ∀ b, b ∈ f1 -> b ∉ fw ++ fh) (hsn : sb ∉ fw ++ fh) :
 Calls Tryz.prog 34 #[.pointer (some ⟨sb, 0, none⟩), vm, .int .i64 who, .agg #[.int .i64 r.id, .int .i64 r.kind, .int .i64 r.addr, .int .i64 r.many, .bool r.wrap, v0, v1]] w (IPost w vw vh fw fh r.id (atmDo l ms hs who r)) := by
 obtain ⟨aw, nw, cw, rfl⟩ := gw.form
 obtain ⟨ah, nh, ch, rfl⟩ := gh.form
 obtain ⟨a0, n0_, c0_, rfl⟩ := g0.form
 obtain ⟨a1, n1_, c1_, rfl⟩ := g1.form
 obtain ⟨am, nm_, cm_, rfl⟩ := gm.form
 have RF := reqOk_facts hok
 have HRL := Lib.hid (reqOk_len hok)
 obtain ⟨i0, ki, kz0, kz1, kz2⟩ := info_parts infoInt
 obtain ⟨at_, hat⟩ := Int.eq_ofNat_of_zero_le (show 0 <= who * 2 + r.id by have := RF.id; omega)
 have hat6 : at_ < 6 := by have := RF.id; omega
 obtain ⟨w1, hw1⟩ : ∃ z, z = (w.alloc (.cells #[.int .i64 r.id, .int .i64 r.kind, .int .i64 r.addr, .int .i64 r.many, .bool r.wrap, .slice a0 n0_ c0_, .slice a1 n1_ c1_] 67)).alloc (.cells #[.int .i64 0, .int .i64 0, .slice none 0 0] 63) := ⟨_, rfl⟩
 have b1 : Below w.heap.size w w1 := by rw [hw1]; exact (below_alloc _ _).trans ((below_alloc _ _).mono (by simp))
 have hsl : sb < w.heap.size := block_of_cell c0
 have C : IC w.heap.size sb w fm fw fh f0 f1 := ⟨rfl, fun c hc => (List.mem_append.1 hc).elim (gw.lt intR_fits c) (gh.lt intR_fits c), gm.lt mrR_fits, g0.lt intR_fits, g1.lt intR_fits, dj, nm, n0, n1, hsl, hsn⟩
 have D : IW w.heap.size sb w l r (.slice am nm_ cm_) (.slice aw nw cw) (.slice ah nh ch) (.slice a0 n0_ c0_) (.slice a1 n1_ c1_) fm fw fh f0 f1 ms hs w1 := by
  have k : ∀ j (hj : j < 7), w1.cell? ⟨w.heap.size, j, none⟩ = some ((#[.int .i64 r.id, .int .i64 r.kind, .int .i64 r.addr, .int .i64 r.many, .bool r.wrap, .slice a0 n0_ c0_, .slice a1 n1_ c1_] : Array Value)[j]'hj) := fun j hj => by
   rw [hw1]
   exact alloc_keep (alloc_at (by simp) (by simp [show j < 7 from hj])) _
  refine ⟨keep_cell b1 c0, keep_cell b1 c1, k 0 (by decide), k 1 (by decide), k 2 (by decide), k 3 (by decide), k 4 (by decide), k 5 (by decide), k 6 (by decide), ?_, gm.below mrR_fits b1, SlR.below intR_fits gw b1, SlR.below intR_fits gh b1, SlR.below intR_fits g0 b1, SlR.below intR_fits g1 b1, fr.below C.lw b1, b1.chg _, by rw [hw1]; simp⟩
  rw [hw1]; exact room_alloc (by simp) (by simp)
 have HC := Lib.hid C
 have HD := Lib.hid D
 have HMS := Lib.hid hms
 have HHS := Lib.hid hhs
 have HAT := Lib.hid hat
 have HRF := Lib.hid RF
 have HMW := Lib.hid hmw
 have HHI := Lib.hid hw2
 have k0 := D.k0
 have k1 := D.k1
 have k2 := D.k2
 have k3 := D.k3
 have k4 := D.k4
 have k5 := D.k5
 have k6 := D.k6
 clear gm gw gh g0 g1 fr dj nm n0 n1 b1 C D hms hhs hat RF hmw c0 c1 hsl hsn hok
 go_enter Tryz.func34, Tryz.ntmps34
 go_upto_region 1 with fail
 rw [<- hw1]
 clear hw1
 obtain ⟨bs, hbs⟩ : ∃ z, z = w.heap.size := ⟨_, rfl⟩
 rw [<- hbs] at HC HD k0 k1 k2 k3 k4 k5 k6
 have HBS := Lib.hid hbs
 rw [<- hbs]
 clear hbs
 go_wp2_with fail
 refine (whole_any _ l fm r _ _ _ HD.out.mp).mono ?_
 rintro e w3 ⟨rfl, b3⟩
 have HD3 := Lib.hid (HD.out.below HC.out b3)
 replace k0 := HD3.out.k0
 clear b3 HD k1 k2 k3 k4 k5 k6
 obtain ⟨w4, hw4⟩ : ∃ z, z = w3.alloc (.cells #[.int .i64 r.id, .int .i64 1, .slice none 0 0] 63) := ⟨_, rfl⟩
 have b4 : Below w3.heap.size w3 w4 := by rw [hw4]; exact below_alloc _ _
 have X4 : DoX w3.heap.size r.id 1 (.slice none 0 0) w4 := by
  rw [hw4]
  exact ⟨alloc1_new _ _ _ 0 rfl, alloc1_new _ _ _ 1 rfl, alloc1_new _ _ _ 2 rfl, fun o => World.frozen?_alloc_at _ _ _ _ rfl⟩
 have HD4 := Lib.hid (HD3.out.below HC.out b4)
 have HX4 := Lib.hid X4
 have hXb : bs + 1 < w3.heap.size := by have := HD3.out.size; omega
 have hXn : w3.heap.size ∉ fw ++ fh := fun hm => by have := HC.out.lw _ hm; omega
 clear b4 X4
 obtain ⟨ix, hix⟩ : ∃ z, z = wholeIx l (burstOf r) := ⟨_, rfl⟩
 rw [<- hix]
 have HIX := Lib.hid hix.symm
 clear hix
 go_upto_region 3 with fail
 rw [<- hw4]
 clear hw4 HD3 k0
 obtain ⟨X, hX⟩ : ∃ z, z = w3.heap.size := ⟨_, rfl⟩
 rw [<- hX] at hXb hXn HX4
 rw [<- hX]
 clear hX
 have s1 := HD4.out.s1
 have k0 := HD4.out.k0
 obtain ⟨bh, oh, rfl, hbh, hbhm, hcell, hnh⟩ := HD4.out.hol.numAt (show at_ < hs.length by rw [HHS.out]; exact hat6)
 obtain ⟨hv, hhv⟩ : ∃ z, z = hs[at_]'(by rw [HHS.out]; exact hat6) := ⟨_, rfl⟩
 rw [<- hhv] at hcell
 have HHV := Lib.hid hhv
 have HNH : Hid (nh = 6) := Lib.hid (by rw [<- HHS.out, hnh])
 have hatr : who * 2 + r.id = (at_ : Int) := HAT.out
 have hati : (at_ : Int) < (nh : Int) := by rw [HNH.out]; omega
 have hat0 : (0 : Int) <= (at_ : Int) := by omega
 clear hhv hnh
 go_quiet (fail)
 obtain ⟨vmm, hvmm⟩ : ∃ z, z = Value.slice am nm_ cm_ := ⟨_, rfl⟩
 obtain ⟨w5, hw5⟩ : ∃ z, z = w4.drewN nq := ⟨_, rfl⟩
 have b5 : Below w4.heap.size w4 w5 := by rw [hw5]; exact below_drewN (Below.refl _ _) nq
 rw [<- hw5]
 have HD5 := Lib.hid (HD4.out.below HC.out b5)
 have HX5 := Lib.hid (HX4.out.below b5)
 clear hw5 b5 HD4 HX4 s1 k0 hcell hvmm vmm
 have hcell : w5.cell? ⟨bh, oh + at_, none⟩ = some (.int .i64 hv) := by
  obtain ⟨_, _, e, _, _, h, _⟩ := HD5.out.hol.numAt (show at_ < hs.length by rw [HHS.out]; exact hat6)
  cases e
  rw [h, HHV.out]
 have HCELL := Lib.hid hcell
 clear hcell
 go_upto_block 0 with fail
 go_cut [] (fun wc => 0 <= ix ∧ ¬ Deny l r ∧ (r.kind = 4 -> hv = r.addr) ∧ IW bs sb w l r (.slice am nm_ cm_) (.slice aw nw cw) (.slice (some ⟨bh, oh, none⟩) nh ch) (.slice a0 n0_ c0_) (.slice a1 n1_ c1_) fm fw fh f0 f1 ms hs wc ∧ DoX X r.id 1 (.slice none 0 0) wc)
 case first =>
  have x1 := HX5.out.x1
  have g1 := HX5.out.fx 1
  by_cases hneg : ix < 0
  · have HR : Hid (atmDo l ms hs who r = ⟨ms, hs, 4, []⟩) := Lib.hid (atmDo_none (by rw [HIX.out]; exact hneg))
    go_upto_region 6 with fail
    obtain ⟨wz, hwz⟩ : ∃ z, z = w5.setCell ⟨X, 1, none⟩ (.int .i64 4) := ⟨_, rfl⟩
    rw [<- hwz]
    have chz : Chg [X] w5 wz := by rw [hwz]; exact store_chg _
    have HDz := Lib.hid (HD5.out.far HC.out chz (by simp; omega))
    have HXz := Lib.hid (by rw [hwz]; exact HX5.out.code 4 : DoX X r.id 4 (.slice none 0 0) wz)
    clear hwz chz HD5 HX5 x1 g1
    have Qr := HDz.out.q
    obtain ⟨u0, p0⟩ := Qr.2.1 0 (by omega)
    obtain ⟨u1, p1⟩ := Qr.2.1 1 (by omega)
    obtain ⟨u2, p2⟩ := Qr.2.1 2 (by omega)
    have e0 := Qr.2.2 0
    have e1 := Qr.2.2 1
    have e2 := Qr.2.2 2
    have y0 := HXz.out.x0
    have y1 := HXz.out.x1
    have y2 := HXz.out.x2
    clear Qr
    go_wp2
    refine bodyPost_ret (v := .agg #[.int .i64 r.id, .int .i64 4, .slice none 0 0]) (by simp [results, Tryz.results34, go_sem, put3_0 _ _ _ p0, put3_1 _ _ _ p1, put3_2 _ _ _ p2]) rfl ?_
    rw [HR.out]
    exact HDz.out.done (R := ⟨_, _, _, _⟩) HC.out ⟨none, 0, 0, rfl, rfl, Nat.le_refl _, Nat.zero_le _, .inl ⟨rfl, rfl⟩⟩ (New.nil _ _) (fun c hm => by simp at hm) (chg3 (bs + 1) _ (.int .i64 r.id) (.int .i64 4) (.slice none 0 0))
  · have HNEG : Hid (0 <= wholeIx l (burstOf r)) := Lib.hid (by rw [HIX.out]; omega)
    obtain ⟨ii, rfl⟩ := Int.eq_ofNat_of_zero_le (show 0 <= ix by omega)
    have hil : ii < l.length := by
     have h1 := wholeIx_hi (l := l) (ads := burstOf r) (by rw [HIX.out]; omega)
     rw [HIX.out] at h1
     simpa using h1
    have k0 := HD5.out.k0
    have k1 := HD5.out.k1
    have k2 := HD5.out.k2
    have k3 := HD5.out.k3
    have k4 := HD5.out.k4
    have k5 := HD5.out.k5
    have k6 := HD5.out.k6
    have hii0 : (0 : Int) <= (ii : Int) := by omega
    go_wp2_with fail
    refine (writes_any r _ _ _).mono ?_
    rintro e w6 ⟨rfl, b6⟩
    have HD6 := Lib.hid (HD5.out.below HC.out b6)
    have HX6 := Lib.hid (HX5.out.below b6)
    have HCELL6 := Lib.hid (keep_cell b6 HCELL.out)
    obtain ⟨amp, nmp, cmp, e, hnmp, hcmp, hmmp, -, rmp⟩ := HD6.out.mp.opened
    cases e
    have hin : ii < nm_ := by rw [<- hnmp.out]; exact hil
    have hini : (ii : Int) < (nm_ : Int) := by omega
    obtain ⟨_, bm, om, fmx, csx, rfl, _, _, _, ⟨rfl, rfl⟩, ecm⟩ := rmp ii hin
    have cO := ecm 3 (by simp)
    simp only [List.getElem_cons_succ, List.getElem_cons_zero] at cO
    have hOn : onlyAt l (wholeIx l (burstOf r)) = l[ii].only := by rw [HIX.out]; exact onlyAt_at hil
    obtain ⟨on, hon⟩ : ∃ z, z = l[ii].only := ⟨_, rfl⟩
    rw [<- hon] at cO hOn
    have HON := Lib.hid hOn
    obtain ⟨wr, hwr⟩ : ∃ z, z = writesB r := ⟨_, rfl⟩
    rw [<- hwr]
    have HWR := Lib.hid hwr
    replace x1 := HX6.out.x1
    replace g1 := HX6.out.fx 1
    replace k1 := HD6.out.k1
    replace k2 := HD6.out.k2
    clear hon hOn rmp ecm hneg hwr b6 k0 k3 k4 k5 k6 HD5 HX5 hnmp hcmp hmmp HCELL
    by_cases hdn : wr = true ∧ on = true
    · obtain ⟨rfl, rfl⟩ := hdn
      have HR : Hid (atmDo l ms hs who r = ⟨ms, hs, 3, []⟩) := Lib.hid (atmDo_deny (Int.not_lt.2 HNEG.out) HWR.out.symm HON.out)
      go_upto_region 9 with fail
      obtain ⟨wz, hwz⟩ : ∃ z, z = w6.setCell ⟨X, 1, none⟩ (.int .i64 3) := ⟨_, rfl⟩
      rw [<- hwz]
      have chz : Chg [X] w6 wz := by rw [hwz]; exact store_chg _
      have HDz := Lib.hid (HD6.out.far HC.out chz (by simp; omega))
      have HXz := Lib.hid (by rw [hwz]; exact HX6.out.code 3 : DoX X r.id 3 (.slice none 0 0) wz)
      clear hwz chz HD6 HX6 x1 g1 cO k1 k2
      have Qr := HDz.out.q
      obtain ⟨u0, p0⟩ := Qr.2.1 0 (by omega)
      obtain ⟨u1, p1⟩ := Qr.2.1 1 (by omega)
      obtain ⟨u2, p2⟩ := Qr.2.1 2 (by omega)
      have e0 := Qr.2.2 0
      have e1 := Qr.2.2 1
      have e2 := Qr.2.2 2
      have y0 := HXz.out.x0
      have y1 := HXz.out.x1
      have y2 := HXz.out.x2
      clear Qr
      go_wp2
      refine bodyPost_ret (v := .agg #[.int .i64 r.id, .int .i64 3, .slice none 0 0]) (by simp [results, Tryz.results34, go_sem, put3_0 _ _ _ p0, put3_1 _ _ _ p1, put3_2 _ _ _ p2]) rfl ?_
      rw [HR.out]
      exact HDz.out.done (R := ⟨_, _, _, _⟩) HC.out ⟨none, 0, 0, rfl, rfl, Nat.le_refl _, Nat.zero_le _, .inl ⟨rfl, rfl⟩⟩ (New.nil _ _) (fun c hm => by simp at hm) (chg3 (bs + 1) _ (.int .i64 r.id) (.int .i64 3) (.slice none 0 0))
    · have HDEN : Hid (¬ Deny l r) := Lib.hid (by unfold Deny; rw [HON.out, <- HWR.out]; exact hdn)
      have hgd : (wr = false) ∨ (wr = true ∧ on = false) := by
       cases wr
       · exact .inl rfl
       · cases on
         · exact .inr ⟨rfl, rfl⟩
         · exact absurd ⟨rfl, rfl⟩ hdn
      clear hdn
      have hcell := HCELL6.out
      have hkk : r.kind = 4 ∨ r.kind ≠ 4 := by omega
      by_cases hk4 : r.kind = 4
      · have hk4b : (r.kind == 4) = true := by simpa using hk4
        by_cases hva : hv = r.addr
        · have hvab : (hv != r.addr) = false := by simpa using hva
          have HVA := Lib.hid hva
          have HK4 := Lib.hid hk4
          clear hva hk4 hkk
          rcases hgd with rfl | ⟨rfl, rfl⟩
          all_goals
           go_wp2_with fail
           go_quiet (fail)
           go_wp2_with fail
           go_meet
           case rel => exact ⟨by omega, HDEN.out, fun _ => HVA.out, HD6.out.below HC.out (below_drewN (Below.refl _ _) _), HX6.out.below (below_drewN (Below.refl _ _) _)⟩
        · have hvab : (hv != r.addr) = true := by simpa using hva
          have HR : Hid (atmDo l ms hs who r = ⟨ms, hs, 1, []⟩) := Lib.hid (atmDo_tryNo (Int.not_lt.2 HNEG.out) HDEN.out hk4 HAT.out (by rw [HHS.out]; exact hat6) (by rw [<- HHV.out]; exact hva))
          clear hva hk4 hkk
          rcases hgd with rfl | ⟨rfl, rfl⟩
          all_goals
           go_wp2_with fail
           go_quiet (fail)
           go_upto_region 11 with fail
           have HDz := Lib.hid (HD6.out.below HC.out (below_drewN (Below.refl _ _) nq))
           have HXz := Lib.hid (HX6.out.below (below_drewN (Below.refl _ _) nq))
           clear HD6 HX6 x1 g1 cO k1 k2 hcell
           have Qr := HDz.out.q
           obtain ⟨u0, p0⟩ := Qr.2.1 0 (by omega)
           obtain ⟨u1, p1⟩ := Qr.2.1 1 (by omega)
           obtain ⟨u2, p2⟩ := Qr.2.1 2 (by omega)
           have e0 := Qr.2.2 0
           have e1 := Qr.2.2 1
           have e2 := Qr.2.2 2
           have y0 := HXz.out.x0
           have y1 := HXz.out.x1
           have y2 := HXz.out.x2
           clear Qr
           go_wp2
           refine bodyPost_ret (v := .agg #[.int .i64 r.id, .int .i64 1, .slice none 0 0]) (by simp [results, Tryz.results34, go_sem, put3_0 _ _ _ p0, put3_1 _ _ _ p1, put3_2 _ _ _ p2]) rfl ?_
           rw [HR.out]
           exact HDz.out.done (R := ⟨_, _, _, _⟩) HC.out ⟨none, 0, 0, rfl, rfl, Nat.le_refl _, Nat.zero_le _, .inl ⟨rfl, rfl⟩⟩ (New.nil _ _) (fun c hm => by simp at hm) (chg3 (bs + 1) _ (.int .i64 r.id) (.int .i64 1) (.slice none 0 0))
      · have hk4b : (r.kind == 4) = false := by simpa using hk4
        have HK4 := Lib.hid hk4
        clear hk4 hkk
        rcases hgd with rfl | ⟨rfl, rfl⟩
        all_goals
         go_wp2_with fail
         go_quiet (fail)
         go_wp2_with fail
         go_meet
         case rel => exact ⟨by omega, HDEN.out, fun h => absurd h HK4.out, HD6.out.below HC.out (below_drewN (Below.refl _ _) _), HX6.out.below (below_drewN (Below.refl _ _) _)⟩
 case rest =>
  obtain ⟨hix0, hden, hhv4, hd, hx⟩ := hcut
  have HD1 := Lib.hid hd
  have HX1 := Lib.hid hx
  have HDEN := Lib.hid hden
  have HH4 := Lib.hid hhv4
  have HNEG : Hid (0 <= wholeIx l (burstOf r)) := Lib.hid (by rw [HIX.out]; exact hix0)
  have HADR := Lib.hid (whole_adr (Int.not_lt.2 HNEG.out))
  have k0 := hd.k0
  have k1 := hd.k1
  have k2 := hd.k2
  have k3 := hd.k3
  have k4 := hd.k4
  have k5 := hd.k5
  have k6 := hd.k6
  clear hd hx hden hhv4 HD5 HX5 HCELL hix0
  go_wp2_with fail
  refine (burst_any r _ _ _).mono ?_
  rintro e w6 ⟨va, fa, rfl, ga, na, b6⟩
  obtain ⟨aa, n, ca, rfl, hn, hcap, hmax, hcm, -⟩ := ga.opened
  have HD2 := Lib.hid (HD1.out.below HC.out b6)
  have HX2 := Lib.hid (HX1.out.below b6)
  have hXlt : X < wc.heap.size := block_of_cell HX1.out.x0
  have HNA : Hid (∀ c, c ∈ fa -> bs + 1 < c ∧ c ≠ X) := Lib.hid (fun c hc => by have := na.lo c hc; have := HD1.out.size; omega)
  have HGA := Lib.hid ga
  have hle : (burstOf r).length <= 4 := adrBurst_len _ _ _
  have hn4 : n <= 4 := by rw [<- hn.out]; exact hle
  have HIN := Lib.hid (burstOf_in HADR.out)
  have HBL := Lib.hid (burstOf_len HADR.out)
  replace k0 := HD2.out.k0
  replace k1 := HD2.out.k1
  replace k2 := HD2.out.k2
  replace k3 := HD2.out.k3
  replace k4 := HD2.out.k4
  replace k5 := HD2.out.k5
  replace k6 := HD2.out.k6
  clear b6 na HD1 HX1 ga hle hXlt
  go_wp2_with fail
  refine (writes_any r _ _ _).mono ?_
  rintro e w7 ⟨rfl, b7⟩
  have HD3 := Lib.hid (HD2.out.below HC.out b7)
  have HX3 := Lib.hid (HX2.out.below b7)
  have HG3 := Lib.hid (SlR.below intR_fits HGA.out b7)
  clear b7 HD2 HX2 HGA k0 k1 k2 k3 k4 k5 k6
  cases qw : writesB r
  · have hkd : r.kind = 1 ∨ r.kind = 3 := by
     have := HRF.out.kind
     unfold writesB at qw
     simp only [Bool.or_eq_false_iff, beq_eq_false_iff_ne] at qw
     omega
    have HKD := Lib.hid hkd
    have x2 := HX3.out.x2
    have g2 := HX3.out.fx 2
    have hXl : X < w7.heap.size := block_of_cell HX3.out.x0
    have HFA : Hid (∀ c, c ∈ fa -> c < w7.heap.size) := Lib.hid (fun c hc => SlR.lt intR_fits HG3.out c hc)
    have hbsz : bs + 1 < w7.heap.size := by have := HD3.out.size; omega
    clear qw hkd
    go_upto_region 14 with fail
    go_wp2_with (at_make; refine wpList_make_full _ rfl _ _ 23 rfl w7.heap.size 3 i0 (.int .i64 0) 1 Tryz.underlying23 ki kz0 kz1 _ _ _ _ n rfl rfl rfl rfl (by rw [kz2]; omega) (by unfold maxLen; omega) (Nat.le_refl _) ?_; intro w8 hown hgr; have b8 : Below w7.heap.size w7 w8 := (Below.refl _ _).grown hgr (Nat.le_refl _) (fun k hk => by simp at hk); replace x2 := keep_cell b8 x2; replace g2 := keep_free b8 hXl g2)
    have ho : w8.ownsRow w7.heap.size 3 1 (.slice (some ⟨w7.heap.size, 0, none⟩) n n) n ((List.replicate n (0 : Int)).map (Value.int .i64)) := by rw [List.map_replicate, <- toList_madeCells_one, <- Nat.mul_one n]; simpa [Value.cells] using hown
    obtain ⟨fd, gd, lod, ndd, frd⟩ := IntS.of_owns ho
    obtain ⟨qb, hqb⟩ : ∃ z, z = w7.heap.size := ⟨_, rfl⟩
    rw [<- hqb] at gd lod
    rw [<- hqb]
    obtain ⟨W, hW⟩ : ∃ z, z = w8.setCell ⟨X, 2, none⟩ (.slice (some ⟨qb, 0, none⟩) n n) := ⟨_, rfl⟩
    rw [<- hW]
    have hcW : Chg [X] w8 W := by rw [hW]; exact store_chg _
    have HDW := Lib.hid ((HD3.out.below HC.out b8).far HC.out hcW (by simp; omega))
    have HXW := Lib.hid (by rw [hW]; exact (HX3.out.below b8).data _ : DoX X r.id 1 (.slice (some ⟨qb, 0, none⟩) n n) W)
    have HGW := Lib.hid ((SlR.below intR_fits HG3.out b8).chg intR_fits hcW (fun c hc e => by have := (HNA.out c hc).2; simp at e; omega))
    have HGD := Lib.hid (gd.chg intR_fits hcW (fun c hc e => by have := lod c hc; simp at e; omega))
    have HFD := Lib.hid (frd.chg (gd.lt intR_fits) hcW (fun c hc e => by have := lod c hc; simp at e; omega))
    have HLO := Lib.hid lod
    have HND := Lib.hid ndd
    have hqX : X < qb := by omega
    have hqB : bs + 1 < qb := by omega
    have HFQ : Hid (∀ c, c ∈ fa -> c < qb) := Lib.hid (fun c hc => by have := HFA.out c hc; omega)
    have HCQ := Lib.hid hqb
    clear ho gd lod ndd frd hqb hW hcW b8 HD3 HX3 HG3 x2 g2 HFA hbsz hXl hown hgr
    go_loopw [76] (fun i wr => ∃ k : Nat, k <= n ∧ i = .int .i64 (k : Int) ∧ SlR 1 intR wr (rdw ms (burstOf r) n k) (.slice (some ⟨qb, 0, none⟩) n n) fd ∧ Free fd wr ∧ Chg fd W wr) (fun i _ => n - (intOf i).toNat)
    case atStart => exact ⟨0, Nat.zero_le _, rfl, by rw [rdw_zero]; exact HGD.out, HFD.out, Chg.refl _ _⟩
    case round =>
     obtain ⟨k, hk, rfl, hg, hf, hc⟩ := hrel
     have HDr := Lib.hid (HDW.out.far HC.out hc (fun c hc' => by have := HLO.out c hc'; omega))
     have HXr := Lib.hid (HXW.out.chg hc (fun hm => by have := HLO.out X hm; omega))
     have HGr := Lib.hid (HGW.out.chg intR_fits hc (fun c hm e => by have := HLO.out c e; have := HFQ.out c hm; omega))
     have HGd := Lib.hid hg
     have HFd := Lib.hid hf
     have HCc := Lib.hid hc
     clear hg hf hc
     by_cases hlt : k < n
     · have hlti : (k : Int) < (n : Int) := by omega
       have hkl : k < (burstOf r).length := by rw [hn.out]; exact hlt
       obtain ⟨ba, oa, rfl, _, _, ck, _⟩ := HGr.out.numAt hkl
       obtain ⟨z, hz⟩ : ∃ z, z = (burstOf r)[k] := ⟨_, rfl⟩
       rw [<- hz] at ck
       have hzr : 0 <= z ∧ z <= 63 := by rw [hz]; exact HIN.out k hkl
       obtain ⟨zk, rfl⟩ := Int.eq_ofNat_of_zero_le hzr.1
       obtain ⟨bw, ow, rfl, _, _, cm, hnw⟩ := HDr.out.mem.numAt (show zk < ms.length by rw [HMS.out]; omega)
       have hzn : (zk : Int) < (nw : Int) := by have := HMS.out; omega
       obtain ⟨mv, hmv⟩ : ∃ v, v = ms[zk]'(by rw [HMS.out]; omega) := ⟨_, rfl⟩
       rw [<- hmv] at cm
       have HMV : Hid (mv = getW ms ((burstOf r)[k])) := Lib.hid (by rw [<- hz, hmv, getW_at])
       obtain ⟨_, _, e, _, hbd, cd, _⟩ := HGd.out.numAt (show k < (rdw ms (burstOf r) n k).length by rw [rdw_len hn.out hk]; exact hlt)
       cases e
       simp only [Nat.zero_add] at cd
       have fqd := HFd.out _ hbd k
       have s0 := HDr.out.s0
       have x2 := HXr.out.x2
       have HKL := Lib.hid hkl
       clear hz hmv hnw
       go_wp2_with fail
       go_still_tail 12, (by kernel_rfl)
       change wpList _ _ _ _ _ wr.drew
       go_wp2
       go_roundw
       case rel =>
        have hs := IntS.set HGd.out rfl hlt mv
        rw [Nat.zero_add, HMV.out, rdw_set hn.out hlt] at hs
        rw [HMV.out]
        exact ⟨k + 1, by omega, by go_num, SlR.below intR_fits hs.1 ((Below.refl _ _).drew), fun c hc o => (World.frozen?_setCell ..).trans (HFd.out c hc o), (HCc.out.trans' hs.2.1).trans' ((Below.refl _ _).drew.chg fd)⟩
       case measure => simp [intOf]; omega
     · have hnlt : ¬ (k : Int) < (n : Int) := by omega
       have HDAT := Lib.hid (by have := HGd.out; rwa [rdw_all hn.out (by omega)] at this : SlR 1 intR wr (l2get ms (burstOf r)) (.slice (some ⟨qb, 0, none⟩) n n) fd)
       have k1 := HDr.out.k1
       have hNEW : ∀ (wz : World) (fp : List Nat), Chg fp wr wz -> (∀ c, c ∈ fd -> c ∉ fp) -> New fd w wz := fun wz fp hc hno => ⟨fun c hc' => by have := HLO.out c hc'; have := HBS.out; omega, HND.out, HFd.out.chg (HDAT.out.lt intR_fits) hc hno⟩
       have HNW := Lib.hid hNEW
       clear hNEW
       by_cases hk3 : r.kind = 3
       · have hkb : (r.kind == 3) = true := by simpa using hk3
         have HR : Hid (atmDo l ms hs who r = ⟨ms, hs.set at_ r.addr, 2, l2get ms (burstOf r)⟩) := Lib.hid (atmDo_hold (Int.not_lt.2 HNEG.out) HDEN.out hk3 HAT.out)
         have x1 := HXr.out.x1
         have g1 := HXr.out.fx 1
         clear hk3
         go_upto_region 22 with fail
         obtain ⟨wy, hwy⟩ : ∃ z, z = wr.setCell ⟨X, 1, none⟩ (.int .i64 2) := ⟨_, rfl⟩
         rw [<- hwy]
         have chy : Chg [X] wr wy := by rw [hwy]; exact store_chg _
         have HDy := Lib.hid (HDr.out.far HC.out chy (by simp; omega))
         have HXy := Lib.hid (by rw [hwy]; exact HXr.out.code 2 : DoX X r.id 2 (.slice (some ⟨qb, 0, none⟩) n n) wy)
         obtain ⟨_, _, e, _, hbm, chh, _⟩ := HDy.out.hol.numAt (show at_ < hs.length by rw [HHS.out]; exact hat6)
         cases e
         have fh_ := HDy.out.fr bh (by simp [hbm]) (oh + at_)
         have k2 := HDy.out.k2
         clear hwy x1 g1 k1
         go_upto_region 23 with fail
         obtain ⟨wz, hwz⟩ : ∃ z, z = wy.setCell ⟨bh, oh + at_, none⟩ (.int .i64 r.addr) := ⟨_, rfl⟩
         rw [<- hwz]
         have chz : Chg fh wy wz := by rw [hwz]; exact (IntS.set HDy.out.hol rfl (by rw [HNH.out]; exact hat6) _).2.1
         have HDz := Lib.hid (by rw [hwz]; exact HDy.out.setHol HC.out rfl (by rw [HNH.out]; exact hat6) r.addr : IW bs sb w l r (.slice am nm_ cm_) (.slice aw nw cw) (.slice (some ⟨bh, oh, none⟩) nh ch) (.slice a0 n0_ c0_) (.slice a1 n1_ c1_) fm fw fh f0 f1 ms (hs.set at_ r.addr) wz)
         have HXz := Lib.hid (HXy.out.chg chz (fun hm => hXn (by simp [hm])))
         have hfdh : ∀ c, c ∈ fd -> c ∉ [X] ++ fh := fun c hc e => by
          have h1 := HLO.out c hc
          rcases List.mem_append.1 e with e | e
          · simp at e; omega
          · have := HC.out.lw c (by simp [e]); omega
         have HGz := Lib.hid (HDAT.out.chg intR_fits (chy.trans chz) hfdh)
         have HNz := Lib.hid (HNW.out _ _ (chy.trans chz) hfdh)
         clear hwz chz chy k2 chh fh_ hfdh
         have Qr := HDz.out.q
         obtain ⟨u0, p0⟩ := Qr.2.1 0 (by omega)
         obtain ⟨u1, p1⟩ := Qr.2.1 1 (by omega)
         obtain ⟨u2, p2⟩ := Qr.2.1 2 (by omega)
         have e0 := Qr.2.2 0
         have e1 := Qr.2.2 1
         have e2 := Qr.2.2 2
         have y0 := HXz.out.x0
         have y1 := HXz.out.x1
         have y2 := HXz.out.x2
         clear Qr
         go_wp2
         refine bodyPost_ret (v := .agg #[.int .i64 r.id, .int .i64 2, .slice (some ⟨qb, 0, none⟩) n n]) (by simp [results, Tryz.results34, go_sem, put3_0 _ _ _ p0, put3_1 _ _ _ p1, put3_2 _ _ _ p2]) rfl ?_
         rw [HR.out]
         exact HDz.out.done (R := ⟨_, _, _, _⟩) HC.out HGz.out HNz.out (fun c hc => by have := HLO.out c hc; omega) (chg3 (bs + 1) _ (.int .i64 r.id) (.int .i64 2) (.slice (some ⟨qb, 0, none⟩) n n))
       · have hkb : (r.kind == 3) = false := by simpa using hk3
         have HR : Hid (atmDo l ms hs who r = ⟨ms, hs, 1, l2get ms (burstOf r)⟩) := Lib.hid (atmDo_read (Int.not_lt.2 HNEG.out) HDEN.out (by have := HKD.out; omega))
         have HNz := Lib.hid (HNW.out _ _ (Chg.refl [] wr) (by simp))
         clear hk3
         go_upto_region 23 with fail
         have Qr := HDr.out.q
         obtain ⟨u0, p0⟩ := Qr.2.1 0 (by omega)
         obtain ⟨u1, p1⟩ := Qr.2.1 1 (by omega)
         obtain ⟨u2, p2⟩ := Qr.2.1 2 (by omega)
         have e0 := Qr.2.2 0
         have e1 := Qr.2.2 1
         have e2 := Qr.2.2 2
         have y0 := HXr.out.x0
         have y1 := HXr.out.x1
         have y2 := HXr.out.x2
         clear Qr
         go_wp2
         refine bodyPost_ret (v := .agg #[.int .i64 r.id, .int .i64 1, .slice (some ⟨qb, 0, none⟩) n n]) (by simp [results, Tryz.results34, go_sem, put3_0 _ _ _ p0, put3_1 _ _ _ p1, put3_2 _ _ _ p2]) rfl ?_
         rw [HR.out]
         exact HDr.out.done (R := ⟨_, _, _, _⟩) HC.out HDAT.out HNz.out (fun c hc => by have := HLO.out c hc; omega) (chg3 (bs + 1) _ (.int .i64 r.id) (.int .i64 1) (.slice (some ⟨qb, 0, none⟩) n n))
  · have hkd : r.kind = 2 ∨ r.kind = 4 := by
     unfold writesB at qw
     simp only [Bool.or_eq_true, beq_iff_eq] at qw
     exact qw
    have hlen := HRL.out qw
    have HDL : Hid (r.data.length = n) := Lib.hid (by have := HBL.out; have := hn.out; omega)
    have HLL : Hid (r.lanes.length = n) := Lib.hid (by have := HBL.out; have := hn.out; omega)
    have HKD := Lib.hid hkd
    have k1 := HD3.out.k1
    have x1 := HX3.out.x1
    have g1 := HX3.out.fx 1
    obtain ⟨cd, hcd⟩ : ∃ z, z = (if r.kind = 4 then (2 : Int) else 1) := ⟨_, rfl⟩
    have HCD := Lib.hid hcd
    clear qw hkd hlen hcd
    go_upto_if 105 with fail
    go_cut [] (fun wv => IW bs sb w l r (.slice am nm_ cm_) (.slice aw nw cw) (.slice (some ⟨bh, oh, none⟩) nh ch) (.slice a0 n0_ c0_) (.slice a1 n1_ c1_) fm fw fh f0 f1 ms hs wv ∧ DoX X r.id cd (.slice none 0 0) wv ∧ SlR 1 intR wv (burstOf r) (.slice aa n ca) fa)
    case first =>
     by_cases hk4 : r.kind = 4
     · have hkb : (r.kind == 4) = true := by simpa using hk4
       have HC2 : Hid (cd = 2) := Lib.hid (by rw [HCD.out, if_pos hk4])
       clear hk4
       go_wp2_with fail
       go_meet
       case rel =>
        have chz : Chg [X] w7 (w7.setCell ⟨X, 1, none⟩ (.int .i64 2)) := store_chg _
        exact ⟨HD3.out.far HC.out chz (by simp; omega), by rw [HC2.out]; exact HX3.out.code 2, HG3.out.chg intR_fits chz (fun c hc e => by have := (HNA.out c hc).2; simp at e; omega)⟩
     · have hkb : (r.kind == 4) = false := by simpa using hk4
       have HC2 : Hid (cd = 1) := Lib.hid (by rw [HCD.out, if_neg hk4])
       clear hk4
       go_wp2_with fail
       go_meet
       case rel => exact ⟨HD3.out, by rw [HC2.out]; exact HX3.out, HG3.out⟩
    case rest =>
     obtain ⟨hd, hx, hg⟩ := hcut
     have HDv := Lib.hid hd
     have HXv := Lib.hid hx
     have HGv := Lib.hid hg
     clear hd hx hg HD3 HX3 HG3 k1 x1 g1
     go_wp2_with fail
     go_loopw [109] (fun i wv => ∃ k : Nat, k <= n ∧ i = .int .i64 (k : Int) ∧ IW bs sb w l r (.slice am nm_ cm_) (.slice aw nw cw) (.slice (some ⟨bh, oh, none⟩) nh ch) (.slice a0 n0_ c0_) (.slice a1 n1_ c1_) fm fw fh f0 f1 (putTo ms (burstOf r) r.data r.lanes k) hs wv ∧ DoX X r.id cd (.slice none 0 0) wv ∧ SlR 1 intR wv (burstOf r) (.slice aa n ca) fa) (fun i _ => n - (intOf i).toNat)
     case atStart => exact ⟨0, Nat.zero_le _, rfl, HDv.out, HXv.out, HGv.out⟩
     case round =>
      obtain ⟨k, hk, rfl, hd, hx, hg⟩ := hrel
      have HDr := Lib.hid hd
      have HXr := Lib.hid hx
      have HGr := Lib.hid hg
      clear hd hx hg
      by_cases hlt : k < n
      · have hlti : (k : Int) < (n : Int) := by omega
        have hkl : k < (burstOf r).length := by rw [hn.out]; exact hlt
        obtain ⟨ba, oa, rfl, _, _, ck, _⟩ := HGr.out.numAt hkl
        obtain ⟨z, hz⟩ : ∃ z, z = (burstOf r)[k] := ⟨_, rfl⟩
        rw [<- hz] at ck
        have hzr : 0 <= z ∧ z <= 63 := by rw [hz]; exact HIN.out k hkl
        obtain ⟨zk, rfl⟩ := Int.eq_ofNat_of_zero_le hzr.1
        have hpl : zk < (putTo ms (burstOf r) r.data r.lanes k).length := by rw [putTo_len, HMS.out]; omega
        obtain ⟨bw, ow, rfl, _, hbw, cm, hnw⟩ := HDr.out.mem.numAt hpl
        have hzn : (zk : Int) < (nw : Int) := by omega
        have hzw : zk < nw := by omega
        obtain ⟨mv, hmv⟩ : ∃ v, v = (putTo ms (burstOf r) r.data r.lanes k)[zk] := ⟨_, rfl⟩
        rw [<- hmv] at cm
        have hmr : 0 <= mv ∧ mv <= 65535 := by rw [hmv]; exact putTo_in HMW.out HRF.out.dat HRF.out.lan k _ (List.getElem_mem hpl)
        have hdl : k < r.data.length := by rw [HDL.out]; exact hlt
        have hll : k < r.lanes.length := by rw [HLL.out]; exact hlt
        obtain ⟨bd, od, rfl, _, _, cdt, hnd⟩ := HDr.out.dat.numAt hdl
        obtain ⟨bl, ol, rfl, _, _, clt, hnl⟩ := HDr.out.lan.numAt hll
        obtain ⟨dv, hdv⟩ : ∃ v, v = r.data[k] := ⟨_, rfl⟩
        obtain ⟨lv, hlv⟩ : ∃ v, v = r.lanes[k] := ⟨_, rfl⟩
        rw [<- hdv] at cdt
        rw [<- hlv] at clt
        have hdr : 0 <= dv ∧ dv <= 65535 := by rw [hdv]; exact HRF.out.dat _ (List.getElem_mem hdl)
        have hlr : 0 <= lv ∧ lv <= 3 := by rw [hlv]; exact HRF.out.lan _ (List.getElem_mem hll)
        have hkd0 : (k : Int) < (n0_ : Int) := by have := HDL.out; omega
        have hkl1 : (k : Int) < (n1_ : Int) := by have := HLL.out; omega
        have HPUT : Hid ((putTo ms (burstOf r) r.data r.lanes k).set zk (putW mv dv lv) = putTo ms (burstOf r) r.data r.lanes (k + 1)) := Lib.hid (by
         rw [putTo_succ hkl hdl hll hz.symm (by rw [HMS.out]; omega), <- hmv, <- hdv, <- hlv, wrdPut_ok _ _ _ hmr hdr hlr])
        have s0 := HDr.out.s0
        have k5 := HDr.out.k5
        have k6 := HDr.out.k6
        have HZW := Lib.hid hzw
        have HFR := Lib.hid (HDr.out.fr bw (by simp [hbw]))
        clear hz hmv hdv hlv hnw hnd hnl hpl hkl hdl hll hzw
        go_wp2_with fail
        have hst : ∀ F, F ∈ [FEq (.pointer (some ⟨sb, 0, none⟩)), FEq (.pointer (some ⟨sb, 0, none⟩)), FEq (.pointer (some ⟨sb, 0, none⟩)), FEq (.pointer (some ⟨sb, 0, none⟩)), FEq (.slice (some ⟨bw, ow, none⟩) nw cw), FEq (.int .i64 (zk : Int)), FEq (.pointer (some ⟨sb, 0, none⟩)), FEq (.pointer (some ⟨sb, 0, none⟩)), FEq (.pointer (some ⟨sb, 0, none⟩)), FEq (.pointer (some ⟨sb, 0, none⟩)), FEq (.slice (some ⟨bw, ow, none⟩) nw cw), FEq (.int .i64 (zk : Int)), FEq (.pointer (some ⟨bw, ow + zk, none⟩)), FEq (.int .i64 mv), FEq (.pointer (some ⟨bs, 5, none⟩)), FEq (.slice (some ⟨bd, od, none⟩) n0_ c0_), FEq (.int .i64 (k : Int)), FEq (.pointer (some ⟨bd, od + k, none⟩)), FEq (.int .i64 dv), FEq (.pointer (some ⟨bs, 6, none⟩)), FEq (.slice (some ⟨bl, ol, none⟩) n1_ c1_), FEq (.int .i64 (k : Int)), FEq (.pointer (some ⟨bl, ol + k, none⟩)), FEq (.int .i64 lv), FEq (.int .i64 (putW mv dv lv)), FEq (.pointer (some ⟨bw, ow + zk, none⟩))] -> Stable [] F := by
         simp only [List.forall_mem_cons]
         exact ⟨stEq _ _, stEq _ _, stEq _ _, stEq _ _, stEq _ _, stEq _ _, stEq _ _, stEq _ _, stEq _ _, stEq _ _, stEq _ _, stEq _ _, stEq _ _, stEq _ _, stEq _ _, stEq _ _, stEq _ _, stEq _ _, stEq _ _, stEq _ _, stEq _ _, stEq _ _, stEq _ _, stEq _ _, stEq _ _, stEq _ _, fun _ h => by simp at h⟩
        refine wp_region_tail (by kernel_rfl) (fun i => (tbdo29 : List (List Nat)).getD i []) (facts [FEq (.pointer (some ⟨sb, 0, none⟩)), FEq (.pointer (some ⟨sb, 0, none⟩)), FEq (.pointer (some ⟨sb, 0, none⟩)), FEq (.pointer (some ⟨sb, 0, none⟩)), FEq (.slice (some ⟨bw, ow, none⟩) nw cw), FEq (.int .i64 (zk : Int)), FEq (.pointer (some ⟨sb, 0, none⟩)), FEq (.pointer (some ⟨sb, 0, none⟩)), FEq (.pointer (some ⟨sb, 0, none⟩)), FEq (.pointer (some ⟨sb, 0, none⟩)), FEq (.slice (some ⟨bw, ow, none⟩) nw cw), FEq (.int .i64 (zk : Int)), FEq (.pointer (some ⟨bw, ow + zk, none⟩)), FEq (.int .i64 mv), FEq (.pointer (some ⟨bs, 5, none⟩)), FEq (.slice (some ⟨bd, od, none⟩) n0_ c0_), FEq (.int .i64 (k : Int)), FEq (.pointer (some ⟨bd, od + k, none⟩)), FEq (.int .i64 dv), FEq (.pointer (some ⟨bs, 6, none⟩)), FEq (.slice (some ⟨bl, ol, none⟩) n1_ c1_), FEq (.int .i64 (k : Int)), FEq (.pointer (some ⟨bl, ol + k, none⟩)), FEq (.int .i64 lv), FEq (.int .i64 (putW mv dv lv)), FEq (.pointer (some ⟨bw, ow + zk, none⟩))]) (fun m w' => Below wr.heap.size wr w') 162 27 26 [some 114, some 115, some 116, some 117, some 118, some 119, some 120, some 121, some 122, some 123, some 124, some 125, some 126, some 127, some 128, some 129, some 130, some 131, some 132, some 133, some 134, some 135, some 136, some 137, some 138, some 139] _ rfl rfl (by decide) rfl rfl (by kernel_rfl) (by kernel_rfl) [] (by kernel_rfl) (fun g b hm v w h => by simp at hm) ?h0 (all_lt (n := 26) ?hop) ?hend
        case h0 => exact (Below.refl _ _).drew
        case hop =>
         refine ⟨⟨⟨⟨⟨⟨⟨⟨⟨⟨⟨⟨⟨⟨⟨⟨⟨⟨⟨⟨⟨⟨⟨⟨⟨⟨trivial, ?_⟩, ?_⟩, ?_⟩, ?_⟩, ?_⟩, ?_⟩, ?_⟩, ?_⟩, ?_⟩, ?_⟩, ?_⟩, ?_⟩, ?_⟩, ?_⟩, ?_⟩, ?_⟩, ?_⟩, ?_⟩, ?_⟩, ?_⟩, ?_⟩, ?_⟩, ?_⟩, ?_⟩, ?_⟩, ?_⟩
         · refine Owes.q 162 (fun u => [(0, .pointer (some ⟨sb, 0, none⟩))]) fun u w' hI hR => ?_; dsimp only [frm, List.foldl, List.replicate, List.set]; clear hI hst hR; go_wp2; exact ⟨rfl, _, rfl, rfl, rfl⟩
         · refine Owes.q 162 (fun u => [(114, u 0)]) fun u w' hI hR => ?_; dsimp only [frm, List.foldl, List.replicate, List.set]; have e0 : u 0 = _ := hR 0 (by decide); rw [e0]; clear hI hst hR; go_wp2; exact ⟨rfl, _, rfl, rfl, rfl⟩
         · refine Owes.q 162 (fun u => [(115, u 1)]) fun u w' hI hR => ?_; dsimp only [frm, List.foldl, List.replicate, List.set]; have e1 : u 1 = _ := hR 1 (by decide); rw [e1]; clear hI hst hR; go_wp2; exact ⟨rfl, _, rfl, rfl, rfl⟩
         · refine Owes.q 162 (fun u => [(116, u 2)]) fun u w' hI hR => ?_; dsimp only [frm, List.foldl, List.replicate, List.set]; have e2 : u 2 = _ := hR 2 (by decide); rw [e2]; clear hI hst hR; go_wp2; exact ⟨rfl, _, rfl, rfl, rfl⟩
         · refine Owes.q 162 (fun u => [(117, u 3)]) fun u w' hI hR => ?_; dsimp only [frm, List.foldl, List.replicate, List.set]; obtain ⟨_, hI⟩ := hI; have k0 := keep_cell hI s0; have e3 : u 3 = _ := hR 3 (by decide); rw [e3]; clear hI hst hR; go_wp2; exact ⟨rfl, _, rfl, rfl, rfl⟩
         · refine Owes.q 162 (fun u => [(16, .int .i64 (zk : Int))]) fun u w' hI hR => ?_; dsimp only [frm, List.foldl, List.replicate, List.set]; clear hI hst hR; go_wp2; exact ⟨rfl, _, rfl, rfl, rfl⟩
         · refine Owes.q 162 (fun u => [(0, .pointer (some ⟨sb, 0, none⟩))]) fun u w' hI hR => ?_; dsimp only [frm, List.foldl, List.replicate, List.set]; clear hI hst hR; go_wp2; exact ⟨rfl, _, rfl, rfl, rfl⟩
         · refine Owes.q 162 (fun u => [(120, u 6)]) fun u w' hI hR => ?_; dsimp only [frm, List.foldl, List.replicate, List.set]; have e6 : u 6 = _ := hR 6 (by decide); rw [e6]; clear hI hst hR; go_wp2; exact ⟨rfl, _, rfl, rfl, rfl⟩
         · refine Owes.q 162 (fun u => [(121, u 7)]) fun u w' hI hR => ?_; dsimp only [frm, List.foldl, List.replicate, List.set]; have e7 : u 7 = _ := hR 7 (by decide); rw [e7]; clear hI hst hR; go_wp2; exact ⟨rfl, _, rfl, rfl, rfl⟩
         · refine Owes.q 162 (fun u => [(122, u 8)]) fun u w' hI hR => ?_; dsimp only [frm, List.foldl, List.replicate, List.set]; have e8 : u 8 = _ := hR 8 (by decide); rw [e8]; clear hI hst hR; go_wp2; exact ⟨rfl, _, rfl, rfl, rfl⟩
         · refine Owes.q 162 (fun u => [(123, u 9)]) fun u w' hI hR => ?_; dsimp only [frm, List.foldl, List.replicate, List.set]; obtain ⟨_, hI⟩ := hI; have k0 := keep_cell hI s0; have e9 : u 9 = _ := hR 9 (by decide); rw [e9]; clear hI hst hR; go_wp2; exact ⟨rfl, _, rfl, rfl, rfl⟩
         · refine Owes.q 162 (fun u => [(16, .int .i64 (zk : Int))]) fun u w' hI hR => ?_; dsimp only [frm, List.foldl, List.replicate, List.set]; clear hI hst hR; go_wp2; exact ⟨rfl, _, rfl, rfl, rfl⟩
         · refine Owes.q 162 (fun u => [(124, u 10), (125, u 11)]) fun u w' hI hR => ?_; dsimp only [frm, List.foldl, List.replicate, List.set]; have e10 : u 10 = _ := hR 10 (by decide); have e11 : u 11 = _ := hR 11 (by decide); rw [e10, e11]; clear hI hst hR; go_wp2; exact ⟨rfl, _, rfl, rfl, rfl⟩
         · refine Owes.q 162 (fun u => [(126, u 12)]) fun u w' hI hR => ?_; dsimp only [frm, List.foldl, List.replicate, List.set]; obtain ⟨_, hI⟩ := hI; have k1 := keep_cell hI cm; have e12 : u 12 = _ := hR 12 (by decide); rw [e12]; clear hI hst hR; go_wp2; exact ⟨rfl, _, rfl, rfl, rfl⟩
         · refine Owes.q 162 (fun u => [(7, .pointer (some ⟨bs, 0, none⟩))]) fun u w' hI hR => ?_; dsimp only [frm, List.foldl, List.replicate, List.set]; clear hI hst hR; go_wp2; exact ⟨rfl, _, rfl, rfl, rfl⟩
         · refine Owes.q 162 (fun u => [(128, u 14)]) fun u w' hI hR => ?_; dsimp only [frm, List.foldl, List.replicate, List.set]; obtain ⟨_, hI⟩ := hI; have k2 := keep_cell hI k5; have e14 : u 14 = _ := hR 14 (by decide); rw [e14]; clear hI hst hR; go_wp2; exact ⟨rfl, _, rfl, rfl, rfl⟩
         · refine Owes.q 162 (fun u => [(15, .int .i64 (k : Int))]) fun u w' hI hR => ?_; dsimp only [frm, List.foldl, List.replicate, List.set]; clear hI hst hR; go_wp2; exact ⟨rfl, _, rfl, rfl, rfl⟩
         · refine Owes.q 162 (fun u => [(129, u 15), (130, u 16)]) fun u w' hI hR => ?_; dsimp only [frm, List.foldl, List.replicate, List.set]; have e15 : u 15 = _ := hR 15 (by decide); have e16 : u 16 = _ := hR 16 (by decide); rw [e15, e16]; clear hI hst hR; go_wp2; exact ⟨rfl, _, rfl, rfl, rfl⟩
         · refine Owes.q 162 (fun u => [(131, u 17)]) fun u w' hI hR => ?_; dsimp only [frm, List.foldl, List.replicate, List.set]; obtain ⟨_, hI⟩ := hI; have k3 := keep_cell hI cdt; have e17 : u 17 = _ := hR 17 (by decide); rw [e17]; clear hI hst hR; go_wp2; exact ⟨rfl, _, rfl, rfl, rfl⟩
         · refine Owes.q 162 (fun u => [(7, .pointer (some ⟨bs, 0, none⟩))]) fun u w' hI hR => ?_; dsimp only [frm, List.foldl, List.replicate, List.set]; clear hI hst hR; go_wp2; exact ⟨rfl, _, rfl, rfl, rfl⟩
         · refine Owes.q 162 (fun u => [(133, u 19)]) fun u w' hI hR => ?_; dsimp only [frm, List.foldl, List.replicate, List.set]; obtain ⟨_, hI⟩ := hI; have k4 := keep_cell hI k6; have e19 : u 19 = _ := hR 19 (by decide); rw [e19]; clear hI hst hR; go_wp2; exact ⟨rfl, _, rfl, rfl, rfl⟩
         · refine Owes.q 162 (fun u => [(15, .int .i64 (k : Int))]) fun u w' hI hR => ?_; dsimp only [frm, List.foldl, List.replicate, List.set]; clear hI hst hR; go_wp2; exact ⟨rfl, _, rfl, rfl, rfl⟩
         · refine Owes.q 162 (fun u => [(134, u 20), (135, u 21)]) fun u w' hI hR => ?_; dsimp only [frm, List.foldl, List.replicate, List.set]; have e20 : u 20 = _ := hR 20 (by decide); have e21 : u 21 = _ := hR 21 (by decide); rw [e20, e21]; clear hI hst hR; go_wp2; exact ⟨rfl, _, rfl, rfl, rfl⟩
         · refine Owes.q 162 (fun u => [(136, u 22)]) fun u w' hI hR => ?_; dsimp only [frm, List.foldl, List.replicate, List.set]; obtain ⟨_, hI⟩ := hI; have k5 := keep_cell hI clt; have e22 : u 22 = _ := hR 22 (by decide); rw [e22]; clear hI hst hR; go_wp2; exact ⟨rfl, _, rfl, rfl, rfl⟩
         · refine Owes.mk _ rfl rfl (fun _ _ h => by cases h) fun u m w' hm hI hR => ⟨⟨(frm 162 [(127, u 13), (132, u 18), (137, u 23)]).toArray, []⟩, rfl, fun d hd => by cases hd; exact frm_lt (by decide), ?_⟩
           dsimp only [frm, List.foldl, List.replicate, List.set]
           have e13 : u 13 = _ := hR 13 (by decide)
           have e18 : u 18 = _ := hR 18 (by decide)
           have e23 : u 23 = _ := hR 23 (by decide)
           have k0 := keep_cell hI s0
           have k1 := keep_cell hI cm
           have k2 := keep_cell hI k5
           have k3 := keep_cell hI cdt
           have k4 := keep_cell hI k6
           have k5 := keep_cell hI clt
           rw [e13, e18, e23]
           clear e13 e18 e23
           have HI := Lib.hid hI
           clear hI hst hR
           go_wp2_with fail
           refine (put_any mv dv lv hmr hdr hlr _).mono ?_
           rintro e wq ⟨rfl, rfl⟩
           go_wp2
           exact ⟨rfl, _, rfl, rfl, HI.out, fun _ _ h => h⟩
         · refine Owes.q 162 (fun u => [(118, u 4), (119, u 5)]) fun u w' hI hR => ?_; dsimp only [frm, List.foldl, List.replicate, List.set]; have e4 : u 4 = _ := hR 4 (by decide); have e5 : u 5 = _ := hR 5 (by decide); rw [e4, e5]; clear hI hst hR; go_wp2; exact ⟨rfl, _, rfl, rfl, rfl⟩
        case hend =>
         intro u w' hI hR
         simp only [setAll, List.set_cons_zero, List.set_cons_succ]
         have e24 : u 24 = _ := hR 24 (by decide)
         have e25 : u 25 = _ := hR 25 (by decide)
         rw [e24, e25]
         have cm2 := keep_cell hI cm
         have hbwl := block_of_cell cm
         have fm2 : w'.frozen? ⟨bw, ow + zk, none⟩ = false := (World.frozen?_of_block (hI.block bw hbwl)).trans (HFR.out _)
         have HDq := Lib.hid (HDr.out.below HC.out hI)
         have HXq := Lib.hid (HXr.out.below hI)
         have HGq := Lib.hid (SlR.below intR_fits HGr.out hI)
         clear hR hI hst e24 e25 cm s0 k5 k6 cdt clt ck hbwl
         go_wp2
         go_roundw
         case rel =>
          have hd := HDq.out.setMem HC.out rfl HZW.out (putW mv dv lv)
          rw [HPUT.out] at hd
          have chz : Chg fw w' (w'.setCell ⟨bw, ow + zk, none⟩ (.int .i64 (putW mv dv lv))) := (IntS.set HDq.out.mem rfl HZW.out _).2.1
          exact ⟨k + 1, by omega, by go_num, hd, HXq.out.chg chz (fun hm => hXn (by simp [hm])), HGq.out.chg intR_fits chz (fun c hc e => by have h1 := (HNA.out c hc).1; have := HC.out.lw c (by simp [e]); omega)⟩
         case measure => simp [intOf]; omega
      · have hnlt : ¬ (k : Int) < (n : Int) := by omega
        have HPA : Hid (putTo ms (burstOf r) r.data r.lanes k = l2put ms (burstOf r) r.data r.lanes) := Lib.hid (by unfold l2put; rw [hn.out, show k = n by omega])
        have HDs : Hid (IW bs sb w l r (.slice am nm_ cm_) (.slice aw nw cw) (.slice (some ⟨bh, oh, none⟩) nh ch) (.slice a0 n0_ c0_) (.slice a1 n1_ c1_) fm fw fh f0 f1 (l2put ms (burstOf r) r.data r.lanes) (freeTo hs (burstOf r) 0 0) wr) := Lib.hid (by have := HDr.out; rw [HPA.out] at this; rw [freeTo_zero]; exact this)
        have s1 := HDr.out.s1
        have hnh6 : (nh : Int) = 6 := by rw [HNH.out]; rfl
        have HNHI := Lib.hid hnh6
        clear hnh6
        go_wp2_with fail
        go_loopw [146] (fun i wv => ∃ k : Nat, k <= 6 ∧ i = .int .i64 (k : Int) ∧ IW bs sb w l r (.slice am nm_ cm_) (.slice aw nw cw) (.slice (some ⟨bh, oh, none⟩) nh ch) (.slice a0 n0_ c0_) (.slice a1 n1_ c1_) fm fw fh f0 f1 (l2put ms (burstOf r) r.data r.lanes) (freeTo hs (burstOf r) k 0) wv ∧ DoX X r.id cd (.slice none 0 0) wv ∧ SlR 1 intR wv (burstOf r) (.slice aa n ca) fa) (fun i _ => 6 - (intOf i).toNat)
        case atStart => exact ⟨0, Nat.zero_le _, rfl, HDs.out, HXr.out, HGr.out⟩
        case round =>
         obtain ⟨kk, hkk, rfl, hd, hx, hg⟩ := hrel
         have HDt := Lib.hid hd
         have HXt := Lib.hid hx
         have HGt := Lib.hid hg
         clear hd hx hg s1 HDs
         by_cases hlt2 : kk < 6
         · have hlti2 : (kk : Int) < (nh : Int) := by have := HNHI.out; omega
           have hkh : kk < hs.length := by rw [HHS.out]; exact hlt2
           obtain ⟨_, _, e, _, hbm, ch1, _⟩ := HDt.out.hol.numAt (show kk < (freeTo hs (burstOf r) kk 0).length by rw [freeTo_len]; exact hkh)
           cases e
           rw [freeTo_here hkh] at ch1
           obtain ⟨hx1, hhx⟩ : ∃ z, z = hs[kk]'hkh := ⟨_, rfl⟩
           rw [<- hhx] at ch1
           have HHX := Lib.hid hhx
           have HKH := Lib.hid hkh
           have fh1 := HDt.out.fr bh (by simp [hbm]) (oh + kk)
           have s1 := HDt.out.s1
           clear hhx
           go_wp2_with fail
           refine (contains_int _ (burstOf r) fa hx1 _ HGt.out).mono ?_
           rintro e w9 ⟨rfl, rfl⟩
           cases hcn : (burstOf r).contains hx1
           · have HCN := Lib.hid hcn
             clear hcn
             go_wp2
             go_roundw
             case rel => exact ⟨kk + 1, by omega, by go_num, by rw [freeTo_stay HKH.out (by rw [<- HHX.out]; exact HCN.out)]; exact HDt.out, HXt.out, HGt.out⟩
             case measure => simp [intOf]; omega
           · have HCN := Lib.hid hcn
             clear hcn
             go_wp2
             go_roundw
             case rel =>
              have hd := HDt.out.setHol HC.out rfl (show kk < nh by rw [HNH.out]; exact hlt2) (-1)
              have e1 : frH (burstOf r) (hs[kk]'hkh) = -1 := if_pos (by have e5 := HHX.out; rw [<- e5]; simpa using HCN.out)
              rw [show (freeTo hs (burstOf r) kk 0).set kk (-1) = freeTo hs (burstOf r) (kk + 1) 0 from by rw [freeTo_step hkh, e1]] at hd
              have chz := (IntS.set HDt.out.hol rfl (show kk < nh by rw [HNH.out]; exact hlt2) (-1)).2.1
              exact ⟨kk + 1, by omega, by go_num, hd, HXt.out.chg chz (fun hm => hXn (by simp [hm])), HGt.out.chg intR_fits chz (fun c hc e => by have h1 := (HNA.out c hc).1; have := HC.out.lw c (by simp [e]); omega)⟩
             case measure => simp [intOf]; omega
         · have hnlt2 : ¬ (kk : Int) < (nh : Int) := by have := HNHI.out; omega
           have HFA : Hid (freeTo hs (burstOf r) kk 0 = freeH hs (burstOf r)) := Lib.hid (freeTo_all (by rw [HHS.out]; omega))
           have HDf : Hid (IW bs sb w l r (.slice am nm_ cm_) (.slice aw nw cw) (.slice (some ⟨bh, oh, none⟩) nh ch) (.slice a0 n0_ c0_) (.slice a1 n1_ c1_) fm fw fh f0 f1 (l2put ms (burstOf r) r.data r.lanes) (freeH hs (burstOf r)) wr) := Lib.hid (by have := HDt.out; rwa [HFA.out] at this)
           have HR : Hid (atmDo l ms hs who r = ⟨l2put ms (burstOf r) r.data r.lanes, freeH hs (burstOf r), cd, []⟩) := Lib.hid (by
            rcases HKD.out with h2 | h4
            · rw [HCD.out, if_neg (by omega)]
              exact atmDo_write (Int.not_lt.2 HNEG.out) HDEN.out (by omega) (by omega) (by omega)
            · rw [HCD.out, if_pos h4]
              exact atmDo_tryYes (Int.not_lt.2 HNEG.out) HDEN.out h4 HAT.out (by rw [HHS.out]; exact hat6) (by rw [<- HHV.out]; exact HH4.out h4))
           clear HDt
           have Qr := HDf.out.q
           obtain ⟨u0, p0⟩ := Qr.2.1 0 (by omega)
           obtain ⟨u1, p1⟩ := Qr.2.1 1 (by omega)
           obtain ⟨u2, p2⟩ := Qr.2.1 2 (by omega)
           have e0 := Qr.2.2 0
           have e1 := Qr.2.2 1
           have e2 := Qr.2.2 2
           have y0 := HXt.out.x0
           have y1 := HXt.out.x1
           have y2 := HXt.out.x2
           clear Qr
           go_wp2
           refine bodyPost_ret (v := .agg #[.int .i64 r.id, .int .i64 cd, .slice none 0 0]) (by simp [results, Tryz.results34, go_sem, put3_0 _ _ _ p0, put3_1 _ _ _ p1, put3_2 _ _ _ p2]) rfl ?_
           rw [HR.out]
           exact HDf.out.done (R := ⟨_, _, _, _⟩) HC.out ⟨none, 0, 0, rfl, rfl, Nat.le_refl _, Nat.zero_le _, .inl ⟨rfl, rfl⟩⟩ (New.nil _ _) (fun c hm => by simp at hm) (chg3 (bs + 1) _ (.int .i64 r.id) (.int .i64 cd) (.slice none 0 0))
end Go.Proofs.YtaeiddoccfaheaaGreat
