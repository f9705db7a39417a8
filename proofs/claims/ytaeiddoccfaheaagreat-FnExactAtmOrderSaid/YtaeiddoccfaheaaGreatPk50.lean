/-
 Texts of this claim laid together: AtmMark JobMark At.
-/
import Derived.Test.YtaeiddoccfaheaaGreatProg
import Derived.Test.YtaeiddoccfaheaaGreatPk04
import Derived.Test.YtaeiddoccfaheaaGreatPk28
import Derived.Test.YtaeiddoccfaheaaGreatPk14
import Derived.WalkSmall
import Derived.Test.YtaeiddoccfaheaaGreatPk30
import Derived.Test.YtaeiddoccfaheaaGreatPk48
set_option linter.unusedVariables false
set_option linter.unusedSimpArgs false
namespace Go.Proofs.YtaeiddoccfaheaaGreat
open Go.RowKit
def mk_Atm (k : Int) (x : Atm) : Atm := ⟨mk_Mem (k) x.mem, mk_ints (k + cnt_Mem x.mem) x.holds⟩
def cnt_Atm (x : Atm) : Int := cnt_Mem x.mem + cnt_ints x.holds
theorem cnt_Atm_in {x : Atm} (h : sm_Atm x) : 0 <= cnt_Atm x ∧ cnt_Atm x <= 2097152 := by unfold cnt_Atm; have h0 := cnt_Mem_in h.1; have h1 := cnt_ints_in h.2; omega
set_option maxRecDepth 100000 in
set_option maxHeartbeats 3200000 in
theorem mark_Atm (x : Atm) (v0 v1 : Value) (fp0 fp1 : List Nat) (k : Int) (h0 : 0 <= k) (h1 : k <= 4503599627370496) (hs : sm_Atm x) (w : World) (g0 : SlR 1 intR w x.mem v0 fp0) (g1 : SlR 1 intR w x.holds v1 fp1) (f : Free (fp0 ++ fp1) w) (hd : (fp0 ++ fp1).Nodup) :
 Calls Tryz.prog 16 #[.agg #[v0, v1], .int .i64 k] w fun e w' => e = .returned (.int .i64 (k + cnt_Atm x)) ∧ SlR 1 intR w' (mk_Atm k x).mem v0 fp0 ∧ SlR 1 intR w' (mk_Atm k x).holds v1 fp1 ∧ Chg (fp0 ++ fp1) w w' ∧ Free (fp0 ++ fp1) w' := by
 have HS := Lib.hid hs
 have hc0 := cnt_Mem_in (hs.1)
 obtain ⟨c0, hcc0⟩ : ∃ c, c = cnt_Mem x.mem := ⟨_, rfl⟩
 rw [<- hcc0] at hc0
 have lc0 := hc0.1
 have uc0 := hc0.2
 have HC0 := Lib.hid hcc0
 clear hc0 hcc0
 have hc1 := cnt_ints_in (hs.2)
 obtain ⟨c1, hcc1⟩ : ∃ c, c = cnt_ints x.holds := ⟨_, rfl⟩
 rw [<- hcc1] at hc1
 have lc1 := hc1.1
 have uc1 := hc1.2
 have HC1 := Lib.hid hcc1
 clear hc1 hcc1
 have D0_1 : Hid (∀ b, b ∈ fp0 -> b ∉ fp1) := Lib.hid (fun b hb hb' => nodup_disj hd b (by first | (simp [hb]; done) | (simp only [List.mem_append] at hb ⊢; rcases hb with hb | hb <;> simp [hb])) hb')
 have L0 : Hid (∀ b, b ∈ fp0 -> b < w.heap.size) := Lib.hid (g0.lt intR_fits)
 have L1 : Hid (∀ b, b ∈ fp1 -> b < w.heap.size) := Lib.hid (g1.lt intR_fits)
 have hb := below_alloc w (.cells #[v0, v1] 33)
 have G0 := Lib.hid (SlR.below intR_fits g0 hb)
 have G1 := Lib.hid (SlR.below intR_fits g1 hb)
 have F0 := Lib.hid (Free.below (fp := fp0) (fun b hb => f b (by first | (simp [hb]; done) | (simp only [List.mem_append] at hb ⊢; rcases hb with hb | hb <;> simp [hb]))) L0.out hb)
 have F1 := Lib.hid (Free.below (fp := fp1) (fun b hb => f b (by first | (simp [hb]; done) | (simp only [List.mem_append] at hb ⊢; rcases hb with hb | hb <;> simp [hb]))) L1.out hb)
 have M0 : Hid (∀ b, b ∈ fp0 -> b < (w.alloc (.cells #[v0, v1] 33)).heap.size) := Lib.hid (fun b hb => by have := L0.out b hb; simp; omega)
 have M1 : Hid (∀ b, b ∈ fp1 -> b < (w.alloc (.cells #[v0, v1] 33)).heap.size) := Lib.hid (fun b hb => by have := L1.out b hb; simp; omega)
 have N0 : Hid (∀ b, b ∈ fp0 -> w.heap.size ≠ b) := Lib.hid (fun b hb => by have := L0.out b hb; omega)
 have N1 : Hid (∀ b, b ∈ fp1 -> w.heap.size ≠ b) := Lib.hid (fun b hb => by have := L1.out b hb; omega)
 have K := Lib.hid (hb.chg (fp0 ++ fp1))
 clear hb f hs hd g0 g1
 go_enter Tryz.func16, Tryz.ntmps16
 go_wp2_with fail
 refine (mark_Mem x.mem _ fp0 k (by omega) (by omega) (HS.out.1) _ G0.out F0.out).mono ?_
 rw [<- HC0.out]
 rintro e w1 ⟨rfl, m0, c, fr⟩
 have X1 := keep_cell_chg c (alloc1_new w _ _ 1 rfl) (fun h => N0.out _ h rfl)
 replace G1 := Lib.hid (SlR.chg intR_fits G1.out c (fun b hb hb' => D0_1.out b hb' hb))
 replace F1 := Lib.hid (Free.chg F1.out M1.out c (fun b hb hb' => D0_1.out b hb' hb))
 replace G0 := Lib.hid m0
 replace F0 := Lib.hid fr
 replace K := Lib.hid (K.out.trans' (c.mono (fun b hb => by first | (simp [hb]; done) | (simp only [List.mem_append] at hb ⊢; rcases hb with hb | hb <;> simp [hb]))))
 replace M0 := Lib.hid (fun b hb => Nat.lt_of_lt_of_le (M0.out b hb) c.size)
 replace M1 := Lib.hid (fun b hb => Nat.lt_of_lt_of_le (M1.out b hb) c.size)
 clear c fr m0
 go_wp2_with fail
 refine (mark_ints _ x.holds fp1 (k + c0) (by omega) (by omega) (HS.out.2) _ G1.out F1.out).mono ?_
 rw [<- HC1.out]
 rintro e w2 ⟨rfl, m1, c, fr⟩
 replace G0 := Lib.hid (SlR.chg intR_fits G0.out c D0_1.out)
 replace F0 := Lib.hid (Free.chg F0.out M0.out c D0_1.out)
 replace G1 := Lib.hid m1
 replace F1 := Lib.hid fr
 replace K := Lib.hid (K.out.trans' (c.mono (fun b hb => by first | (simp [hb]; done) | (simp only [List.mem_append] at hb ⊢; rcases hb with hb | hb <;> simp [hb]))))
 replace M0 := Lib.hid (fun b hb => Nat.lt_of_lt_of_le (M0.out b hb) c.size)
 replace M1 := Lib.hid (fun b hb => Nat.lt_of_lt_of_le (M1.out b hb) c.size)
 clear c fr m1
 go_wp2
 go_ret
 exact ⟨ret_int (by unfold cnt_Atm; rw [<- HC0.out, <- HC1.out]; omega), G0.out, (by have h := G1.out; rw [HC0.out] at h; exact h), K.out, (by have h := (Free.app F0.out F1.out); simpa [List.append_assoc] using h)⟩
set_option maxRecDepth 100000 in
set_option maxHeartbeats 3200000 in
theorem held_Atm (x : Atm) (v0 v1 : Value) (fp0 fp1 : List Nat) (k : Int) (h0 : 0 <= k) (h1 : k <= 4503599627370496) (hs : sm_Atm x) (w : World) (g0 : SlR 1 intR w (mk_Atm k x).mem v0 fp0) (g1 : SlR 1 intR w (mk_Atm k x).holds v1 fp1) :
 Calls Tryz.prog 18 #[.agg #[v0, v1], .int .i64 k] w fun e w' => e = .returned (.int .i64 (k + cnt_Atm x)) ∧ Below w.heap.size w w' := by
 have HS := Lib.hid hs
 have hc0 := cnt_Mem_in (hs.1)
 obtain ⟨c0, hcc0⟩ : ∃ c, c = cnt_Mem x.mem := ⟨_, rfl⟩
 rw [<- hcc0] at hc0
 have lc0 := hc0.1
 have uc0 := hc0.2
 have HC0 := Lib.hid hcc0
 clear hc0 hcc0
 have hc1 := cnt_ints_in (hs.2)
 obtain ⟨c1, hcc1⟩ : ∃ c, c = cnt_ints x.holds := ⟨_, rfl⟩
 rw [<- hcc1] at hc1
 have lc1 := hc1.1
 have uc1 := hc1.2
 have HC1 := Lib.hid hcc1
 clear hc1 hcc1
 have hb := below_alloc w (.cells #[v0, v1] 33)
 have G0 : Hid (SlR 1 intR (w.alloc (.cells #[v0, v1] 33)) (mk_Mem (k) x.mem) v0 fp0) := Lib.hid (by have h := SlR.below intR_fits g0 hb; exact h)
 have G1 : Hid (SlR 1 intR (w.alloc (.cells #[v0, v1] 33)) (mk_ints (k + c0) x.holds) v1 fp1) := Lib.hid (by have h := SlR.below intR_fits g1 hb; rw [HC0.out]; exact h)
 have B := Lib.hid hb
 clear hb hs g0 g1
 go_enter Tryz.func18, Tryz.ntmps18
 go_wp2_with fail
 refine (held_Mem x.mem _ fp0 (k) (by omega) (by omega) (HS.out.1) _ G0.out).mono ?_
 rw [<- HC0.out]
 rintro e w1 ⟨rfl, b⟩
 have X1 := keep_cell b (alloc1_new w _ _ 1 rfl)
 replace G1 := Lib.hid (SlR.below intR_fits G1.out b)
 replace B := Lib.hid (B.out.trans (b.mono B.out.size))
 clear b
 have p0 : 0 <= k + c0 := by omega
 have d0 : decide (k + c0 < 0) = false := decide_eq_false (by omega)
 go_wp2_with fail
 refine (held_ints _ x.holds fp1 (k + c0) (by omega) (by omega) (HS.out.2) _ G1.out).mono ?_
 rw [<- HC1.out]
 rintro e w2 ⟨rfl, b⟩
 replace B := Lib.hid (B.out.trans (b.mono B.out.size))
 clear b
 have p1 : 0 <= k + c0 + c1 := by omega
 have d1 : decide (k + c0 + c1 < 0) = false := decide_eq_false (by omega)
 go_wp2
 go_ret
 exact ⟨ret_int (by unfold cnt_Atm; rw [<- HC0.out, <- HC1.out]; omega), B.out⟩
end Go.Proofs.YtaeiddoccfaheaaGreat
namespace Go.Proofs.YtaeiddoccfaheaaGreat
open Go.RowKit
def elm_jobs (k : Int) (x : Job) : Job := ⟨k, k + 1, ⟨k + 1 + 1, k + 1 + 1 + 1, mk_ints (k + 1 + 1 + 1 + 1) x.rsp.data⟩⟩
def ecn_jobs (x : Job) : Int := 4 + cnt_ints x.rsp.data
def mk_jobs (k : Int) (l : List Job) : List Job := mkL elm_jobs ecn_jobs k l
def cnt_jobs (l : List Job) : Int := cntL ecn_jobs l
theorem ecn_jobs_in {x : Job} (h : sm_Job x) : 0 <= ecn_jobs x ∧ ecn_jobs x <= 1048580 := by
 have := cnt_ints_in (l := x.rsp.data) h
 unfold ecn_jobs
 omega
theorem ecn_jobs_all {l : List Job} (h : sm_jobs l) : ∀ x, x ∈ l -> 0 <= ecn_jobs x ∧ ecn_jobs x <= 1048580 := fun x hx => by
 obtain ⟨j, hj, rfl⟩ := List.mem_iff_getElem.1 hx
 exact ecn_jobs_in (h.2 j hj)
theorem cnt_jobs_in {l : List Job} (h : sm_jobs l) : 0 <= cnt_jobs l ∧ cnt_jobs l <= 4398046511104 := by
 have := cntL_small (cn := ecn_jobs) (M := 1048580) (by omega) l (ecn_jobs_all h) h.1
 unfold cnt_jobs
 omega
theorem cnt_jobs_take {l : List Job} (h : sm_jobs l) (j : Nat) : 0 <= cntL ecn_jobs (l.take j) ∧ cntL ecn_jobs (l.take j) <= 4398046511104 := by
 have := cntL_small (cn := ecn_jobs) (M := 1048580) (by omega) (l.take j) (fun x hx => ecn_jobs_all h x (List.mem_of_mem_take hx)) (by have := h.1; rw [List.length_take]; omega)
 omega
set_option maxRecDepth 100000 in
set_option maxHeartbeats 3200000 in
theorem mark_jobs (v : Value) (l : List Job) (fp : List Nat) (k : Int) (h0 : 0 <= k) (h1 : k <= 72057594037927936) (hs : sm_jobs l) (w : World) (g : SlR 5 jobR w l v fp) (f : Free fp w) (hd : fp.Nodup) :
 Calls Tryz.prog 17 #[v, .int .i64 k] w fun e w' => e = .returned (.int .i64 (k + cnt_jobs l)) ∧ SlR 5 jobR w' (mk_jobs k l) v fp ∧ Chg fp w w' ∧ Free fp w' := by
 obtain ⟨a, n, cap, rfl, hn, hcap, hmax, hcm, r⟩ := g.opened
 have hns : n <= 1048576 := by rw [<- hn.out]; exact hs.1
 have HS := Lib.hid hs
 have HD := Lib.hid hd
 have G := Lib.hid g
 have F := Lib.hid f
 clear r g f hs hd
 go_enter Tryz.func17, Tryz.ntmps17
 go_wp2
 go_loopw [1, 5] (fun q i wr => ∃ (j : Nat) (t : Int), j <= n ∧ i = .int .i64 j ∧ q = .int .i64 t ∧ Hid (t = k + cntL ecn_jobs (l.take j)) ∧ 0 <= t ∧ t <= 72061992084439040 ∧ SlR 5 jobR wr (mixL elm_jobs ecn_jobs k l j) (.slice a n cap) fp ∧ Chg fp w wr ∧ Free fp wr) (fun _ i _ => n - (intOf i).toNat)
 case atStart => exact ⟨0, k, Nat.zero_le _, rfl, rfl, Lib.hid (by simp [cntL]), h0, by omega, by rw [mixL_zero]; exact G.out, Chg.refl _ _, F.out⟩
 case round =>
  obtain ⟨j, t, hj, rfl, rfl, ht, t0, t1, gi, hc, hf⟩ := hrel
  have GI := Lib.hid gi
  have HC := Lib.hid hc
  have HF := Lib.hid hf
  by_cases hlt : j < n
  · obtain ⟨i1, b1, o1, f1, cs, rfl, hbm, hb1, hbf, hfn, hff, hR, e1, fin⟩ := SlR.focus jobR_fits gi HD.out hlt
    have hin : j < l.length := by rw [hn.out]; exact hlt
    have hR2 : jobR wr l[j] cs f1 := by rw [<- mixL_at (mk := elm_jobs) (cn := ecn_jobs) k l j hin i1]; exact hR
    obtain ⟨dv, df0, rfl, rfl, hdv⟩ := hR2
    obtain ⟨da, dn, dc, rfl⟩ := hdv.form
    obtain ⟨y0, c0⟩ : ∃ x, wr.cell? ⟨b1, o1 + j * 5 + 0, none⟩ = some x := ⟨_, e1 0 (by simp)⟩
    obtain ⟨y1, c1⟩ : ∃ x, wr.cell? ⟨b1, o1 + j * 5 + 1, none⟩ = some x := ⟨_, e1 1 (by simp)⟩
    obtain ⟨y2, c2⟩ : ∃ x, wr.cell? ⟨b1, o1 + j * 5 + 2, none⟩ = some x := ⟨_, e1 2 (by simp)⟩
    obtain ⟨y3, c3⟩ : ∃ x, wr.cell? ⟨b1, o1 + j * 5 + 3, none⟩ = some x := ⟨_, e1 3 (by simp)⟩
    have c4 : wr.cell? ⟨b1, o1 + j * 5 + 4, none⟩ = some (.slice da dn dc) := e1 4 (by simp)
    have d0 := hf b1 hbm (o1 + j * 5 + 0)
    have d1 := hf b1 hbm (o1 + j * 5 + 1)
    have d2 := hf b1 hbm (o1 + j * 5 + 2)
    have d3 := hf b1 hbm (o1 + j * 5 + 3)
    simp only [Nat.add_zero] at c0 d0
    have hb := cnt_ints_in (l := l[j].rsp.data) (HS.out.2 j hin)
    obtain ⟨c, hcc⟩ : ∃ c, c = cnt_ints l[j].rsp.data := ⟨_, rfl⟩
    rw [<- hcc] at hb
    have lc := hb.1
    have uc := hb.2
    have HCC := Lib.hid hcc
    have W1 : Hid (SlR 1 intR (putCells b1 wr (o1 + j * 5) [.int .i64 t, .int .i64 (t + 1), .int .i64 (t + 1 + 1), .int .i64 (t + 1 + 1 + 1)]) l[j].rsp.data (.slice da dn dc) f1) :=
     Lib.hid (hdv.same intR_fits (fun b hb => putCells_block (fun e => hbf (by rw [<- e]; exact hb)) _ _ _) (by rw [putCells_size]; exact Nat.le_refl _))
    have W2 : Hid (Free f1 (putCells b1 wr (o1 + j * 5) [.int .i64 t, .int .i64 (t + 1), .int .i64 (t + 1 + 1), .int .i64 (t + 1 + 1 + 1)])) := Lib.hid (putCells_free _ _ _ (fun b hb => hf b (hff b hb)))
    have FI := Lib.hid fin
    have HB := Lib.hid hbf
    clear gi hc hf hbm hbf hfn hff hR e1 fin hdv hb hcc
    go_wp2_with fail
    refine (mark_ints (.slice da dn dc) l[j].rsp.data f1 (t + 1 + 1 + 1 + 1) (by omega) (by omega) (HS.out.2 j hin) _ W1.out W2.out).mono ?_
    rw [<- HCC.out]
    rintro e w2 ⟨rfl, mg, ch, fr⟩
    have FN := Lib.hid (FI.out [.int .i64 t, .int .i64 (t + 1), .int .i64 (t + 1 + 1), .int .i64 (t + 1 + 1 + 1)] w2 (elm_jobs t l[j]) (by simp) ch ⟨.slice da dn dc, f1, rfl, rfl, mg⟩ HF.out fr)
    have hb2 := cnt_jobs_take HS.out (j + 1)
    have ht2 : t + 1 + 1 + 1 + 1 + c = k + cntL ecn_jobs (l.take (j + 1)) := by rw [cntL_next hin, ht.out, HCC.out]; unfold ecn_jobs; omega
    have hb3 : t + 1 + 1 + 1 + 1 + c <= 72061992084439040 := by rw [ht2]; omega
    have HT2 := Lib.hid ht2
    clear ch fr mg W1 W2 c0 c1 c2 c3 c4 d0 d1 d2 d3 hb2 ht2
    go_wp2
    go_roundw
    case rel =>
     obtain ⟨q1, q2, q3⟩ := FN.out
     rw [ht.out, mixL_set k l j hin] at q1
     exact ⟨j + 1, t + 1 + 1 + 1 + 1 + c, by omega, by go_num, by go_num, HT2, by omega, hb3, q1, HC.out.trans' q2, q3⟩
    case measure => simp [intOf]; omega
  · clear gi hc hf
    obtain rfl : j = n := by omega
    go_wp2
    go_ret
    exact ⟨ret_int (by unfold cnt_jobs; rw [ht.out, List.take_of_length_le (by rw [hn.out]; exact Nat.le_refl _)]), by unfold mk_jobs; rw [<- mixL_all k l j hn.out]; exact GI.out, HC.out, HF.out⟩
set_option maxRecDepth 100000 in
set_option maxHeartbeats 3200000 in
theorem held_jobs (v : Value) (l : List Job) (fp : List Nat) (k : Int) (h0 : 0 <= k) (h1 : k <= 72057594037927936) (hs : sm_jobs l) (w : World) (g : SlR 5 jobR w (mk_jobs k l) v fp) :
 Calls Tryz.prog 19 #[v, .int .i64 k] w fun e w' => e = .returned (.int .i64 (k + cnt_jobs l)) ∧ Below w.heap.size w w' := by
 obtain ⟨a, n, cap, rfl, hn, hcap, hmax, hcm, r⟩ := g.opened
 have hnl : l.length = n := by rw [<- hn.out]; exact (mkL_len l k).symm
 have hns : n <= 1048576 := by rw [<- hnl]; exact hs.1
 have HN := Lib.hid hnl
 have HS := Lib.hid hs
 clear g hs hnl
 go_enter Tryz.func19, Tryz.ntmps19
 go_wp2
 go_loopw [1, 5] (fun q i wr => ∃ (j : Nat) (t : Int), j <= n ∧ i = .int .i64 j ∧ q = .int .i64 t ∧ Hid (t = k + cntL ecn_jobs (l.take j)) ∧ 0 <= t ∧ t <= 72061992084439040 ∧ Below w.heap.size w wr) (fun _ i _ => n - (intOf i).toNat)
 case atStart => exact ⟨0, k, Nat.zero_le _, rfl, rfl, Lib.hid (by simp [cntL]), h0, by omega, Below.refl _ _⟩
 case round =>
  obtain ⟨j, t, hj, rfl, rfl, ht, t0, t1, hb⟩ := hrel
  have HB := Lib.hid hb
  by_cases hlt : j < n
  · obtain ⟨i1, b1, o1, f1, cs, rfl, hb1, hbm, hff, hR, e1⟩ := r j hlt
    have hin : j < l.length := by rw [HN.out]; exact hlt
    have hR2 : jobR w (elm_jobs t l[j]) cs f1 := by rw [ht.out, <- mkL_at (mk := elm_jobs) (cn := ecn_jobs) l k j hin i1]; exact hR
    obtain ⟨dv, df0, rfl, rfl, hdv⟩ := hR2
    obtain ⟨da, dn, dc, rfl⟩ := hdv.form
    have c0 : wr.cell? ⟨b1, o1 + j * 5 + 0, none⟩ = some (.int .i64 t) := (hb.cell (p := ⟨b1, o1 + j * 5 + 0, none⟩) hb1).trans (e1 0 (by simp))
    have c1 : wr.cell? ⟨b1, o1 + j * 5 + 1, none⟩ = some (.int .i64 (t + 1)) := (hb.cell (p := ⟨b1, o1 + j * 5 + 1, none⟩) hb1).trans (e1 1 (by simp))
    have c2 : wr.cell? ⟨b1, o1 + j * 5 + 2, none⟩ = some (.int .i64 (t + 1 + 1)) := (hb.cell (p := ⟨b1, o1 + j * 5 + 2, none⟩) hb1).trans (e1 2 (by simp))
    have c3 : wr.cell? ⟨b1, o1 + j * 5 + 3, none⟩ = some (.int .i64 (t + 1 + 1 + 1)) := (hb.cell (p := ⟨b1, o1 + j * 5 + 3, none⟩) hb1).trans (e1 3 (by simp))
    have c4 : wr.cell? ⟨b1, o1 + j * 5 + 4, none⟩ = some (.slice da dn dc) := (hb.cell (p := ⟨b1, o1 + j * 5 + 4, none⟩) hb1).trans (e1 4 (by simp))
    simp only [Nat.add_zero] at c0
    have G1 : Hid (SlR 1 intR wr (mk_ints (t + 1 + 1 + 1 + 1) l[j].rsp.data) (.slice da dn dc) f1) := Lib.hid (SlR.below intR_fits hdv hb)
    have hbb := cnt_ints_in (l := l[j].rsp.data) (HS.out.2 j hin)
    obtain ⟨c, hcc⟩ : ∃ c, c = cnt_ints l[j].rsp.data := ⟨_, rfl⟩
    rw [<- hcc] at hbb
    have lc := hbb.1
    have uc := hbb.2
    have HCC := Lib.hid hcc
    clear r hb hbm hff hR e1 hdv hbb hcc
    go_wp2_with fail
    refine (held_ints (.slice da dn dc) l[j].rsp.data f1 (t + 1 + 1 + 1 + 1) (by omega) (by omega) (HS.out.2 j hin) _ G1.out).mono ?_
    rw [<- HCC.out]
    rintro e w2 ⟨rfl, b2⟩
    have HB2 := Lib.hid (HB.out.trans (b2.mono HB.out.size))
    have hb2 := cnt_jobs_take HS.out (j + 1)
    have ht2 : t + 1 + 1 + 1 + 1 + c = k + cntL ecn_jobs (l.take (j + 1)) := by rw [cntL_next hin, ht.out, HCC.out]; unfold ecn_jobs; omega
    have hb3 : t + 1 + 1 + 1 + 1 + c <= 72061992084439040 := by rw [ht2]; omega
    have hneg : decide (t + 1 + 1 + 1 + 1 + c < 0) = false := decide_eq_false (by omega)
    have HT2 := Lib.hid ht2
    clear b2 c0 c1 c2 c3 c4 hb2 ht2
    go_wp2
    go_roundw
    case rel => exact ⟨j + 1, t + 1 + 1 + 1 + 1 + c, by omega, by go_num, by go_num, HT2, by omega, hb3, HB2.out⟩
    case measure => simp [intOf]; omega
  · clear r hb
    obtain rfl : j = n := by omega
    go_wp2
    go_ret
    exact ⟨ret_int (by unfold cnt_jobs; rw [ht.out, List.take_of_length_le (by rw [HN.out]; exact Nat.le_refl _)]), HB.out⟩
end Go.Proofs.YtaeiddoccfaheaaGreat
namespace Go.Proofs.YtaeiddoccfaheaaGreat
open Go.RowKit
end Go.Proofs.YtaeiddoccfaheaaGreat
