/-
 Texts of this claim laid together: TE.
-/
import Derived.Test.YtmcjklicepaiaaaPk19
set_option linter.unusedVariables false
set_option linter.unusedSimpArgs false
namespace Go.Proofs.Ytmcjklicepaiaaa
open Go.RowKit Go.ChangeShapes Go.WideShapes
def FRoom (n B : Nat) (fp : List Nat) : Fact := fun v w => ∃ q : Nat, v = .pointer (some ⟨q, 0, none⟩) ∧ RoomAt q n w ∧ q ∉ fp ∧ B <= q
theorem stRoom (n B : Nat) (fp : List Nat) : Stable fp (FRoom n B fp) := fun _ _ _ ⟨q, e, h, hn, hB⟩ hc => ⟨q, e, h.chg hc hn, hn, hB⟩
def FIdx (bl ol n : Nat) : Fact := fun v _ => ∃ q : Nat, q < n ∧ v = .pointer (some ⟨bl, ol + q * 5, none⟩)
theorem stIdx (bl ol n : Nat) (fp : List Nat) : Stable fp (FIdx bl ol n) := fun _ _ _ h _ => h
def FJobV : Fact := fun v _ => ∃ (y : Job) (a : Option Addr) (n c : Nat), v = .agg #[.int .i64 y.who, .int .i64 y.n, .int .i64 y.rsp.id, .int .i64 y.rsp.code, .slice a n c]
theorem stJobV (fp : List Nat) : Stable fp FJobV := fun _ _ _ h _ => h
theorem job_form {w : World} {l : List Job} {a : Option Addr} {n c : Nat} {fp : List Nat} (h : SlR 5 jobR w l (.slice a n c) fp) (hn : 0 < n) : ∃ b o, a = some ⟨b, o, none⟩ ∧ b ∈ fp ∧ ∀ i, i < n -> ∃ (y : Job) (ea : Option Addr) (en ec : Nat), w.cell? ⟨b, o + i * 5, none⟩ = some (.int .i64 y.who) ∧ w.cell? ⟨b, o + i * 5 + 1, none⟩ = some (.int .i64 y.n) ∧ w.cell? ⟨b, o + i * 5 + 2, none⟩ = some (.int .i64 y.rsp.id) ∧ w.cell? ⟨b, o + i * 5 + 3, none⟩ = some (.int .i64 y.rsp.code) ∧ w.cell? ⟨b, o + i * 5 + 4, none⟩ = some (.slice ea en ec) := by
 obtain ⟨a', n', c', e, hl, _, _, _, r⟩ := h.opened
 cases e
 obtain ⟨_, b, o, _, _, rfl, _, hb, _, _, _⟩ := r 0 hn
 refine ⟨b, o, rfl, hb, fun i hi => ?_⟩
 obtain ⟨h1, b', o', f, cs, e', _, _, _, ⟨dv, df, rfl, rfl, hd⟩, hc⟩ := r i hi
 cases e'
 obtain ⟨ea, en, ec, rfl⟩ := hd.form
 exact ⟨l[i], ea, en, ec, hc 0 (by simp), hc 1 (by simp), hc 2 (by simp), hc 3 (by simp), hc 4 (by simp)⟩
theorem fin5 {w : World} {b : Nat} {u0 u1 : Value} (x0 x1 x2 x3 x4 : Value) (h0 : w.cell? ⟨b, 0, none⟩ = some u0) (h1 : w.cell? ⟨b, 1, none⟩ = some u1) {w' : World} (e : w' = ((((w.setCell ⟨b, 0, none⟩ x0).setCell ⟨b, 1, none⟩ x1).setCell ⟨b, 2, none⟩ x2).setCell ⟨b, 3, none⟩ x3).setCell ⟨b, 4, none⟩ x4) :
 w'.cell? ⟨b, 0, none⟩ = some x0 ∧ w'.cell? ⟨b, 1, none⟩ = some x1 ∧ Chg [b] w w' := by
 subst e
 exact ⟨setOther _ (by decide) (setOther _ (by decide) (setOther _ (by decide) (setOther _ (by decide) (setSame _ h0)))), setOther _ (by decide) (setOther _ (by decide) (setOther _ (by decide) (setSame _ (setOther _ (by decide) h1)))), ((((store_chg _).trans' (store_chg _)).trans' (store_chg _)).trans' (store_chg _)).trans' (store_chg _)⟩
def EvPost (rb : Nat) (fq : List Nat) (N : Int) (w0 : World) (e : Ending) (w : World) : Prop := ∃ kd wo nn : Int, e = .returned (.agg #[.int .i64 kd, .int .i64 wo, .int .i64 nn]) ∧ RdAt w rb fq N ∧ Chg [rb] w0 w
set_option maxRecDepth 100000 in
set_option maxHeartbeats 12800000 in
theorem l20TlmEvent_b (rb : Nat) (fq : List Nat) (N : Int) (hN : N <= 900000000) (vb0 vb1 vb2 vw vh va vx vy vz : Value) (qs : List Int) (lx ly : List Job) (fa fx fy : List Nat) (hq3 : qs.length = 3) (hx : lx.length <= 1000) (hy : ly.length <= 1000) (w : World) (h : RdAt w rb fq N) (fl : ∀ b, b ∈ fq -> b < w.heap.size)
 (hf : (∃ a n c, vb0 = .slice a n c) ∧ (∃ a n c, vb1 = .slice a n c) ∧ (∃ a n c, vb2 = .slice a n c) ∧ (∃ a n c, vw = .slice a n c) ∧ (∃ a n c, vh = .slice a n c) ∧ (∃ a n c, vz = .slice a n c))
 (ga : SlR 1 intR w qs va fa) (gx : SlR 5 jobR w lx vx fx) (gy : SlR 5 jobR w ly vy fy) (na : rb ∉ fa) (nx : rb ∉ fx) (ny : rb ∉ fy) :
 Calls Try.prog 72 #[.pointer (some ⟨rb, 0, none⟩), .agg #[vb0, vb1, vb2], .agg #[vw, vh, va, vx, vy, vz]] w (EvPost rb fq (N + 20) w) := by
 obtain ⟨⟨_, _, _, rfl⟩, ⟨_, _, _, rfl⟩, ⟨_, _, _, rfl⟩, ⟨_, _, _, rfl⟩, ⟨_, _, _, rfl⟩, ⟨_, _, _, rfl⟩⟩ := hf
 rename_i a0 n0 c0 a1 n1 c1 a2 n2 c2 a3 n3 c3 a4 n4 c4 a5 n5 c5
 obtain ⟨aa, an, ac, rfl⟩ := ga.form
 obtain ⟨xa, xn, xc, rfl⟩ := gx.form
 obtain ⟨ya, yn, yc, rfl⟩ := gy.form
 have hxl : lx.length = xn := by
  have h' := gx
  obtain ⟨_, _, _, e, h2, _⟩ := h'
  cases e; exact h2
 have hyl : ly.length = yn := by
  have h' := gy
  obtain ⟨_, _, _, e, h2, _⟩ := h'
  cases e; exact h2
 have hxn : xn <= 1000 := by omega
 have hyn : yn <= 1000 := by omega
 have hlt := h.lt
 obtain ⟨w1, hw1⟩ : ∃ z, z = ((w.alloc (.cells #[.slice a0 n0 c0, .slice a1 n1 c1, .slice a2 n2 c2] 38)).alloc (.cells #[.slice a3 n3 c3, .slice a4 n4 c4, .slice aa an ac, .slice xa xn xc, .slice ya yn yc, .slice a5 n5 c5] 70)).alloc (.cells #[.int .i64 0, .int .i64 0, .int .i64 0] 47) := ⟨_, rfl⟩
 have b1 : Below w.heap.size w w1 := by rw [hw1]; exact ((below_alloc _ _).trans ((below_alloc _ _).mono (by simp))).trans ((below_alloc _ _).mono (by simp; omega))
 have cs : ∀ j (hj : j < 6), w1.cell? ⟨w.heap.size + 1, j, none⟩ = some ((#[.slice a3 n3 c3, .slice a4 n4 c4, .slice aa an ac, .slice xa xn xc, .slice ya yn yc, .slice a5 n5 c5] : Array Value)[j]'hj) := fun j hj => by
  rw [hw1]; exact alloc_keep (alloc_at (by simp) (by simp [show j < 6 from hj])) _
 have s2 := cs 2 (by decide)
 have s3 := cs 3 (by decide)
 have s4 := cs 4 (by decide)
 have r3 : RoomAt (w.heap.size + 1 + 1) 3 w1 := by rw [hw1]; exact room_alloc (by simp) (by simp)
 have H1 := Lib.hid (h.below b1)
 have B1 := Lib.hid b1
 have R3 := Lib.hid r3
 have GA := Lib.hid (SlR.below intR_fits ga b1)
 have GX := Lib.hid (SlR.below jobR_fits gx b1)
 have GY := Lib.hid (SlR.below jobR_fits gy b1)
 have hq3' := Lib.hid hq3
 have FL := Lib.hid fl
 clear h ga gx gy b1 cs r3 hx hy hxl hyl hq3 fl
 go_enter Try.func72, Try.ntmps72
 go_upto_region 1 with fail
 rw [<- hw1]
 clear hw1
 obtain ⟨bs, hbs⟩ : ∃ z, z = w.heap.size := ⟨_, rfl⟩
 rw [<- hbs] at s2 s3 s4 R3
 rw [<- hbs]
 have HBS := Lib.hid hbs
 have hrb : rb < bs := by omega
 clear hbs
 simp only [List.getElem_toArray, List.getElem_cons_zero, List.getElem_cons_succ] at s2 s3 s4
 go_wp2_with fail
 refine (pick_any rb fq N 3 (by omega) (by omega) (by omega) _ H1.out).mono ?_
 rintro e w2 ⟨x2, rfl, lo2, hi2, h1, h2⟩
 obtain ⟨k, rfl⟩ := Int.eq_ofNat_of_zero_le lo2
 have H2 := Lib.hid h1
 have C2 := Lib.hid h2
 clear h1 h2 H1
 go_wp2_with fail
 refine (pick_any rb fq (N + 1) 4 (by omega) (by omega) (by omega) _ H2.out).mono ?_
 rintro e w3 ⟨x3, rfl, lo3, hi3, h1, h2⟩
 have H3 := Lib.hid h1
 have hC3 : Chg [rb] w1 w3 := C2.out.trans' h2
 have C3 := Lib.hid hC3
 have nS : bs + 1 ∉ [rb] := by simp; omega
 have nE : bs + 1 + 1 ∉ [rb] := by simp; omega
 replace s2 := keep_cell_chg hC3 s2 nS
 replace s3 := keep_cell_chg hC3 s3 nS
 replace s4 := keep_cell_chg hC3 s4 nS
 have R3' := Lib.hid (R3.out.chg hC3 nE)
 have GA3 := Lib.hid (GA.out.chg intR_fits hC3 (fun c hc e => na (by simp at e; exact e ▸ hc)))
 have GX3 := Lib.hid (GX.out.chg jobR_fits hC3 (fun c hc e => nx (by simp at e; exact e ▸ hc)))
 have GY3 := Lib.hid (GY.out.chg jobR_fits hC3 (fun c hc e => ny (by simp at e; exact e ▸ hc)))
 have hk3 : k < 3 := by omega
 have hk3i : (k : Int) < 3 := by omega
 clear h1 h2 H2 C2 R3 GA GX GY hC3 lo2 hi2
 by_cases hp0 : x3 = 0
 · subst hp0
   obtain ⟨ba, oa, rfl, _, _, cQ, hqn⟩ := GA3.out.numAt (show k < qs.length by rw [hq3'.out]; exact hk3)
   obtain rfl : an = 3 := by rw [<- hqn, hq3'.out]
   obtain ⟨zq, hzq⟩ : ∃ z, z = qs[k]'(by rw [hq3'.out]; exact hk3) := ⟨_, rfl⟩
   rw [<- hzq] at cQ
   clear hqn hzq
   obtain ⟨u0, r0⟩ := R3'.out.2.1 0 (by omega)
   obtain ⟨u1, r1⟩ := R3'.out.2.1 1 (by omega)
   obtain ⟨u2, r2⟩ := R3'.out.2.1 2 (by omega)
   have f0 := R3'.out.2.2 0
   have f1 := R3'.out.2.2 1
   have f2 := R3'.out.2.2 2
   go_wp2
   obtain ⟨t0, t1, t2, t3⟩ := fin3 (.int .i64 1) (.int .i64 (k : Int)) (.int .i64 zq) r0 r1 r2
   have hfin : EvPost rb fq (N + 20) w (.returned (.agg #[.int .i64 1, .int .i64 (k : Int), .int .i64 zq])) _ := ⟨_, _, _, rfl, (H3.out.chg t3 (by simp; omega) (fun c hc e => by have := FL.out c hc; have := HBS.out; simp at e; omega)).mono (by omega), (((B1.out.chg [rb]).trans' C3.out).trans t3).drop (fun c hc hl => by rcases List.mem_append.1 hc with hc | hc; exact hc; have := HBS.out; simp at hc; omega)⟩
   exact bodyPost_ret (by simp [results, Try.results72, go_sem, t0, t1, t2]) rfl hfin
 · have p0 : (x3 == 0) = false := by simpa using hp0
   have hrest : ∀ (w4 : World), RdAt w4 rb fq (N + 2) -> Chg [rb] w1 w4 -> RoomAt (bs + 1 + 1) 3 w4 -> True := fun _ _ _ _ => trivial
   clear hrest
   by_cases hp1 : x3 = 1
   · subst hp1
     by_cases hx0 : 0 < xn
     · have hx0i : (0 : Int) < (xn : Int) := by omega
       obtain ⟨bl, ol, rfl, hbm, hj⟩ := job_form GX3.out hx0
       have nbl : bl ∉ [rb] := fun e => nx (by simp at e; exact e ▸ hbm)
       have HJ := Lib.hid hj
       clear hj hbm
       go_upto_region 7 with fail
       have hst : ∀ F, F ∈ [FEq (.pointer (some ⟨bs + 1, 3, none⟩)), FEq (.slice (some ⟨bl, ol, none⟩) xn xc), FEq (.pointer (some ⟨rb, 0, none⟩)), FEq (.pointer (some ⟨bs + 1, 3, none⟩)), FEq (.slice (some ⟨bl, ol, none⟩) xn xc), FEq (.int .i64 (xn : Int)), FInt 0 ((xn : Int) - 1), FIdx bl ol xn, FJobV, FRoom 5 (bs + 1 + 1 + 1) [rb]] -> Stable [rb] F := by
        simp only [List.forall_mem_cons]
        exact ⟨stEq _ _, stEq _ _, stEq _ _, stEq _ _, stEq _ _, stEq _ _, stInt _ _ _, stIdx _ _ _ _, stJobV _, stRoom _ _ _, fun _ h => by simp at h⟩
       refine wp_region_tail (by kernel_rfl) (fun i => ([[], [0], [], [], [3], [3, 4], [2, 3, 4, 5], [0, 1, 2, 3, 4, 5, 6], [0, 1, 2, 3, 4, 5, 6, 7], [], [0, 1, 2, 3, 4, 5, 6, 7, 8, 9]] : List (List Nat)).getD i []) (facts [FEq (.pointer (some ⟨bs + 1, 3, none⟩)), FEq (.slice (some ⟨bl, ol, none⟩) xn xc), FEq (.pointer (some ⟨rb, 0, none⟩)), FEq (.pointer (some ⟨bs + 1, 3, none⟩)), FEq (.slice (some ⟨bl, ol, none⟩) xn xc), FEq (.int .i64 (xn : Int)), FInt 0 ((xn : Int) - 1), FIdx bl ol xn, FJobV, FRoom 5 (bs + 1 + 1 + 1) [rb]]) (fun m w' => RdAt w' rb fq ((N + 2) + 1 * m) ∧ Chg [rb] w3 w') 72 11 10 [some 29, some 30, some 31, some 32, some 33, some 34, some 35, some 36, some 37, some 8] _ rfl rfl (by decide) rfl rfl (by kernel_rfl) (by kernel_rfl) [] (by kernel_rfl) (fun g b hm v w h => by simp at hm) ?h0 (all_lt (n := 10) ?hop) ?hend
       case h0 => exact ⟨(H3.out.below (Below.refl _ _).drew).mono (by omega), (Chg.refl _ _).drewN 1⟩
       case hop =>
        refine ⟨⟨⟨⟨⟨⟨⟨⟨⟨⟨trivial, ?_⟩, ?_⟩, ?_⟩, ?_⟩, ?_⟩, ?_⟩, ?_⟩, ?_⟩, ?_⟩, ?_⟩
        · refine Owes.mk _ rfl rfl (fun _ _ h => by cases h) fun u m w' hm ⟨hI, hc⟩ hR => ⟨⟨(frm 72 [(5, .pointer (some ⟨bs + 1, 0, none⟩))]).toArray, []⟩, rfl, fun d hd => by cases hd; exact frm_lt (by decide), ?_⟩
          dsimp only [frm, List.foldl, List.replicate, List.set]
          have hm : m < 11 := hm
          clear hR
          have k0 := keep_cell_chg hc s3 nS
          clear hst
          go_wp2
          exact ⟨rfl, _, rfl, rfl, ⟨hI.mono (by omega), hc⟩, fun _ _ h => h⟩
        · refine Owes.mk _ rfl rfl (fun _ _ h => by cases h) fun u m w' hm ⟨hI, hc⟩ hR => ⟨⟨(frm 72 [(29, u 0)]).toArray, []⟩, rfl, fun d hd => by cases hd; exact frm_lt (by decide), ?_⟩
          dsimp only [frm, List.foldl, List.replicate, List.set]
          have hm : m < 11 := hm
          have ev0 : u 0 = _ := hR 0 (by decide)
          clear hR
          rw [ev0]
          have k0 := keep_cell_chg hc s3 nS
          clear hst
          go_wp2
          exact ⟨rfl, _, rfl, rfl, ⟨hI.mono (by omega), hc⟩, fun _ _ h => h⟩
        · refine Owes.mk _ rfl rfl (fun _ _ h => by cases h) fun u m w' hm ⟨hI, hc⟩ hR => ⟨⟨(frm 72 [(0, .pointer (some ⟨rb, 0, none⟩))]).toArray, []⟩, rfl, fun d hd => by cases hd; exact frm_lt (by decide), ?_⟩
          dsimp only [frm, List.foldl, List.replicate, List.set]
          have hm : m < 11 := hm
          clear hR
          go_wp2
          exact ⟨rfl, _, rfl, rfl, ⟨hI.mono (by omega), hc⟩, fun _ _ h => h⟩
        · refine Owes.mk _ rfl rfl (fun _ _ h => by cases h) fun u m w' hm ⟨hI, hc⟩ hR => ⟨⟨(frm 72 [(5, .pointer (some ⟨bs + 1, 0, none⟩))]).toArray, []⟩, rfl, fun d hd => by cases hd; exact frm_lt (by decide), ?_⟩
          dsimp only [frm, List.foldl, List.replicate, List.set]
          have hm : m < 11 := hm
          clear hR
          have k0 := keep_cell_chg hc s3 nS
          clear hst
          go_wp2
          exact ⟨rfl, _, rfl, rfl, ⟨hI.mono (by omega), hc⟩, fun _ _ h => h⟩
        · refine Owes.mk _ rfl rfl (fun _ _ h => by cases h) fun u m w' hm ⟨hI, hc⟩ hR => ⟨⟨(frm 72 [(32, u 3)]).toArray, []⟩, rfl, fun d hd => by cases hd; exact frm_lt (by decide), ?_⟩
          dsimp only [frm, List.foldl, List.replicate, List.set]
          have hm : m < 11 := hm
          have ev0 : u 3 = _ := hR 3 (by decide)
          clear hR
          rw [ev0]
          have k0 := keep_cell_chg hc s3 nS
          clear hst
          go_wp2
          exact ⟨rfl, _, rfl, rfl, ⟨hI.mono (by omega), hc⟩, fun _ _ h => h⟩
        · refine Owes.mk _ rfl rfl (fun _ _ h => by cases h) fun u m w' hm ⟨hI, hc⟩ hR => ⟨⟨(frm 72 [(33, u 4)]).toArray, []⟩, rfl, fun d hd => by cases hd; exact frm_lt (by decide), ?_⟩
          dsimp only [frm, List.foldl, List.replicate, List.set]
          have hm : m < 11 := hm
          have ev0 : u 4 = _ := hR 4 (by decide)
          clear hR
          rw [ev0]
          have k0 := keep_cell_chg hc s3 nS
          clear hst
          go_wp2
          exact ⟨rfl, _, rfl, rfl, ⟨hI.mono (by omega), hc⟩, fun _ _ h => h⟩
        · refine Owes.mk _ rfl rfl (fun _ _ h => by cases h) fun u m w' hm ⟨hI, hc⟩ hR => ⟨⟨(frm 72 [(31, u 2), (34, u 5)]).toArray, []⟩, rfl, fun d hd => by cases hd; exact frm_lt (by decide), ?_⟩
          dsimp only [frm, List.foldl, List.replicate, List.set]
          have hm : m < 11 := hm
          have ev0 : u 2 = _ := hR 2 (by decide)
          have ev1 : u 5 = _ := hR 5 (by decide)
          clear hR
          rw [ev0, ev1]
          have k0 := keep_cell_chg hc s3 nS
          go_wp2_with fail
          refine (pick_any rb fq ((N + 2) + 1 * m) (xn : Int) (by omega) (by omega) (by omega) _ hI).mono ?_
          rintro e wq ⟨x, rfl, lo, hi, g1, g2⟩
          have hs := facts_stable hst g2
          have G1 := Lib.hid (g1.mono (show (N + 2) + 1 * (m : Int) + 1 <= (N + 2) + 1 * ((m + 1 : Nat) : Int) by omega))
          have G2 := Lib.hid (hc.trans' g2)
          have HS := Lib.hid hs
          clear g1 g2 hs hc hI hst
          go_wp2
          exact ⟨rfl, _, rfl, ⟨x, by omega, by omega, rfl⟩, ⟨G1.out, G2.out⟩, HS.out⟩
        · refine Owes.mk _ rfl rfl (fun _ _ h => by cases h) fun u m w' hm ⟨hI, hc⟩ hR => ⟨⟨(frm 72 [(30, u 1), (35, u 6)]).toArray, []⟩, rfl, fun d hd => by cases hd; exact frm_lt (by decide), ?_⟩
          dsimp only [frm, List.foldl, List.replicate, List.set]
          have hm : m < 11 := hm
          have k0 := keep_cell_chg hc s3 nS
          have ev1 : u 1 = _ := hR 1 (by decide)
          obtain ⟨z6, l6, h6, ev6⟩ := hR 6 (by decide)
          rw [ev1, ev6]
          obtain ⟨q, rfl⟩ := Int.eq_ofNat_of_zero_le l6
          have hq : q < xn := by omega
          have hqi : (q : Int) < (xn : Int) := by omega
          clear hR hst ev1 ev6
          go_wp2
          exact ⟨rfl, _, rfl, ⟨q, hq, rfl⟩, ⟨hI.mono (by omega), hc⟩, fun _ _ h => h⟩
        · refine Owes.mk _ rfl rfl (fun _ _ h => by cases h) fun u m w' hm ⟨hI, hc⟩ hR => ⟨⟨(frm 72 [(36, u 7)]).toArray, []⟩, rfl, fun d hd => by cases hd; exact frm_lt (by decide), ?_⟩
          dsimp only [frm, List.foldl, List.replicate, List.set]
          have hm : m < 11 := hm
          have k0 := keep_cell_chg hc s3 nS
          obtain ⟨q, hq, ev7⟩ := hR 7 (by decide)
          rw [ev7]
          obtain ⟨y, ea, en, ec, g0, g1, g2, g3, g4⟩ := HJ.out q hq
          have g0 := keep_cell_chg hc g0 nbl
          have g1 := keep_cell_chg hc g1 nbl
          have g2 := keep_cell_chg hc g2 nbl
          have g3 := keep_cell_chg hc g3 nbl
          have g4 := keep_cell_chg hc g4 nbl
          have HI := Lib.hid hI
          have HCc := Lib.hid hc
          clear hR hst ev7 hI hc
          go_wp2
          exact ⟨rfl, _, rfl, ⟨y, ea, en, ec, rfl⟩, ⟨HI.out.mono (by omega), HCc.out⟩, fun _ _ h => h⟩
        · refine Owes.mk _ rfl rfl (fun _ _ h => by cases h) fun u m w' hm ⟨hI, hc⟩ hR => ⟨⟨(frm 72 []).toArray, []⟩, rfl, fun d hd => by cases hd; exact frm_lt (by decide), ?_⟩
          dsimp only [frm, List.foldl, List.replicate, List.set]
          have hm : m < 11 := hm
          have k0 := keep_cell_chg hc s3 nS
          have ba := below_alloc w' (.cells #[.int .i64 0, .int .i64 0, .int .i64 0, .int .i64 0, .slice none 0 0] 64)
          have hz9 : bs + 1 + 1 + 1 <= w'.heap.size := by have := R3'.out.1; have := hc.size; omega
          have HS8 := Lib.hid (facts_stable hst (ba.chg [rb]))
          have HI := Lib.hid ((hI.below ba).mono (show (N + 2) + 1 * (m : Int) <= (N + 2) + 1 * ((m + 1 : Nat) : Int) by omega))
          have HCc := Lib.hid (hc.trans' (ba.chg _))
          clear hR hst hI hc ba
          go_wp2
          exact ⟨rfl, _, rfl, ⟨w'.heap.size, rfl, room_alloc rfl (by simp), by simp; omega, hz9⟩, ⟨HI.out.mono (by omega), HCc.out⟩, HS8.out⟩
       case hend =>
        intro u w' ⟨hI, hc⟩ hR
        simp only [setAll, List.set_cons_zero, List.set_cons_succ]
        obtain ⟨y, ea, en, ec, e8⟩ := hR 8 (by decide)
        obtain ⟨q, e9, hq, hqn, hqb⟩ := hR 9 (by decide)
        rw [e8, e9]
        obtain ⟨y0, p0_⟩ := hq.2.1 0 (by omega)
        obtain ⟨y1, p1_⟩ := hq.2.1 1 (by omega)
        obtain ⟨y2, p2_⟩ := hq.2.1 2 (by omega)
        obtain ⟨y3, p3_⟩ := hq.2.1 3 (by omega)
        obtain ⟨y4, p4_⟩ := hq.2.1 4 (by omega)
        have f0_ := hq.2.2 0
        have f1_ := hq.2.2 1
        have f2_ := hq.2.2 2
        have f3_ := hq.2.2 3
        have f4_ := hq.2.2 4
        have RE := Lib.hid (R3'.out.chg hc nE)
        have HIx := Lib.hid hI
        have HCx := Lib.hid (C3.out.trans' hc)
        clear hR hI hc hst e8 e9 hq s3
        go_upto_region 8 with fail
        obtain ⟨w4, hw4⟩ : ∃ z, z = ((((w'.setCell ⟨q, 0, none⟩ (.int .i64 y.who)).setCell ⟨q, 1, none⟩ (.int .i64 y.n)).setCell ⟨q, 2, none⟩ (.int .i64 y.rsp.id)).setCell ⟨q, 3, none⟩ (.int .i64 y.rsp.code)).setCell ⟨q, 4, none⟩ (.slice ea en ec) := ⟨_, rfl⟩
        obtain ⟨d0, d1, d2⟩ := fin5 _ _ _ _ _ p0_ p1_ hw4
        rw [<- hw4]
        have H4 := Lib.hid (HIx.out.chg d2 (by simp; omega) (fun c hc e => by have := FL.out c hc; have := HBS.out; simp at e; omega))
        have R4 := Lib.hid (RE.out.chg d2 (by simp; omega))
        have hC4 : Chg [rb] w w4 := (((B1.out.chg [rb]).trans' HCx.out).trans d2).drop (fun c hc hl => by rcases List.mem_append.1 hc with hc | hc; exact hc; have := HBS.out; simp at hc; omega)
        have C4 := Lib.hid hC4
        clear hw4 d2 hC4 HIx RE HCx p0_ p1_ p2_ p3_ p4_ f0_ f1_ f2_ f3_ f4_
        obtain ⟨u0, r0⟩ := R4.out.2.1 0 (by omega)
        obtain ⟨u1, r1⟩ := R4.out.2.1 1 (by omega)
        obtain ⟨u2, r2⟩ := R4.out.2.1 2 (by omega)
        have f0 := R4.out.2.2 0
        have f1 := R4.out.2.2 1
        have f2 := R4.out.2.2 2
        go_wp2
        obtain ⟨t0, t1, t2, t3⟩ := fin3 (.int .i64 2) (.int .i64 y.who) (.int .i64 y.n) r0 r1 r2
        have hfin : EvPost rb fq (N + 20) w (.returned (.agg #[.int .i64 2, .int .i64 y.who, .int .i64 y.n])) _ := ⟨_, _, _, rfl, (H4.out.chg t3 (by simp; omega) (fun c hc e => by have := FL.out c hc; have := HBS.out; simp at e; omega)).mono (by simp; omega), (C4.out.trans t3).drop (fun c hc hl => by rcases List.mem_append.1 hc with hc | hc; exact hc; have := HBS.out; simp at hc; omega)⟩
        exact bodyPost_ret (by simp [results, Try.results72, go_sem, t0, t1, t2]) rfl hfin
     · have hx0i : ¬ ((0 : Int) < (xn : Int)) := by omega
       clear p0
       go_wp2_with fail
       refine (pick_any rb fq (N + 2) 5 (by omega) (by omega) (by omega) _ (H3.out.mono (by omega))).mono ?_
       rintro e w4 ⟨x4, rfl, lo4, hi4, h1, h2⟩
       have H4 := Lib.hid h1
       have C4 := Lib.hid (C3.out.trans' h2)
       have R4 := Lib.hid (R3'.out.chg h2 nE)
       clear h1 h2
       go_wp2_with fail
       refine (pick_any rb fq (N + 3) 5 (by omega) (by omega) (by omega) _ (H4.out.mono (by omega))).mono ?_
       rintro e w5 ⟨x5, rfl, lo5, hi5, h1, h2⟩
       have H5 := Lib.hid h1
       have C5 := Lib.hid (C4.out.trans' h2)
       have R5 := Lib.hid (R4.out.chg h2 nE)
       clear h1 h2
       go_wp2_with fail
       refine (pick_any rb fq (N + 4) 5 (by omega) (by omega) (by omega) _ (H5.out.mono (by omega))).mono ?_
       rintro e w6 ⟨x6, rfl, lo6, hi6, h1, h2⟩
       have H6 := Lib.hid h1
       have C6 := Lib.hid (C5.out.trans' h2)
       have R6 := Lib.hid (R5.out.chg h2 nE)
       clear h1 h2
       obtain ⟨u0, r0⟩ := R6.out.2.1 0 (by omega)
       obtain ⟨u1, r1⟩ := R6.out.2.1 1 (by omega)
       obtain ⟨u2, r2⟩ := R6.out.2.1 2 (by omega)
       have f0 := R6.out.2.2 0
       have f1 := R6.out.2.2 1
       have f2 := R6.out.2.2 2
       go_wp2
       obtain ⟨t0, t1, t2, t3⟩ := fin3 (.int .i64 x4) (.int .i64 (x5 - 1)) (.int .i64 (x6 - 1)) r0 r1 r2
       have hfin : EvPost rb fq (N + 20) w (.returned (.agg #[.int .i64 x4, .int .i64 (x5 - 1), .int .i64 (x6 - 1)])) _ := ⟨_, _, _, rfl, (H6.out.chg t3 (by simp; omega) (fun c hc e => by have := FL.out c hc; have := HBS.out; simp at e; omega)).mono (by omega), (((B1.out.chg [rb]).trans' C6.out).trans t3).drop (fun c hc hl => by rcases List.mem_append.1 hc with hc | hc; exact hc; have := HBS.out; simp at hc; omega)⟩
       exact bodyPost_ret (by simp [results, Try.results72, go_sem, t0, t1, t2]) rfl hfin
   · have p1 : (x3 == 1) = false := by simpa using hp1
     by_cases hp2 : x3 = 2
     · subst hp2
       by_cases hy0 : 0 < yn
       · have hy0i : (0 : Int) < (yn : Int) := by omega
         obtain ⟨bl, ol, rfl, hbm, hj⟩ := job_form GY3.out hy0
         have nbl : bl ∉ [rb] := fun e => ny (by simp at e; exact e ▸ hbm)
         have HJ := Lib.hid hj
         clear hj hbm
         go_upto_region 11 with fail
         have hst : ∀ F, F ∈ [FEq (.pointer (some ⟨bs + 1, 4, none⟩)), FEq (.slice (some ⟨bl, ol, none⟩) yn yc), FEq (.pointer (some ⟨rb, 0, none⟩)), FEq (.pointer (some ⟨bs + 1, 4, none⟩)), FEq (.slice (some ⟨bl, ol, none⟩) yn yc), FEq (.int .i64 (yn : Int)), FInt 0 ((yn : Int) - 1), FIdx bl ol yn, FJobV, FRoom 5 (bs + 1 + 1 + 1) [rb]] -> Stable [rb] F := by
          simp only [List.forall_mem_cons]
          exact ⟨stEq _ _, stEq _ _, stEq _ _, stEq _ _, stEq _ _, stEq _ _, stInt _ _ _, stIdx _ _ _ _, stJobV _, stRoom _ _ _, fun _ h => by simp at h⟩
         refine wp_region_tail (by kernel_rfl) (fun i => ([[], [0], [], [], [3], [3, 4], [2, 3, 4, 5], [0, 1, 2, 3, 4, 5, 6], [0, 1, 2, 3, 4, 5, 6, 7], [], [0, 1, 2, 3, 4, 5, 6, 7, 8, 9]] : List (List Nat)).getD i []) (facts [FEq (.pointer (some ⟨bs + 1, 4, none⟩)), FEq (.slice (some ⟨bl, ol, none⟩) yn yc), FEq (.pointer (some ⟨rb, 0, none⟩)), FEq (.pointer (some ⟨bs + 1, 4, none⟩)), FEq (.slice (some ⟨bl, ol, none⟩) yn yc), FEq (.int .i64 (yn : Int)), FInt 0 ((yn : Int) - 1), FIdx bl ol yn, FJobV, FRoom 5 (bs + 1 + 1 + 1) [rb]]) (fun m w' => RdAt w' rb fq ((N + 2) + 1 * m) ∧ Chg [rb] w3 w') 72 11 10 [some 49, some 50, some 51, some 52, some 53, some 54, some 55, some 56, some 57, some 9] _ rfl rfl (by decide) rfl rfl (by kernel_rfl) (by kernel_rfl) [] (by kernel_rfl) (fun g b hm v w h => by simp at hm) ?h0 (all_lt (n := 10) ?hop) ?hend
         case h0 => exact ⟨(H3.out.below (Below.refl _ _).drew).mono (by omega), (Chg.refl _ _).drewN 1⟩
         case hop =>
          refine ⟨⟨⟨⟨⟨⟨⟨⟨⟨⟨trivial, ?_⟩, ?_⟩, ?_⟩, ?_⟩, ?_⟩, ?_⟩, ?_⟩, ?_⟩, ?_⟩, ?_⟩
          · refine Owes.mk _ rfl rfl (fun _ _ h => by cases h) fun u m w' hm ⟨hI, hc⟩ hR => ⟨⟨(frm 72 [(5, .pointer (some ⟨bs + 1, 0, none⟩))]).toArray, []⟩, rfl, fun d hd => by cases hd; exact frm_lt (by decide), ?_⟩
            dsimp only [frm, List.foldl, List.replicate, List.set]
            have hm : m < 11 := hm
            clear hR
            have k0 := keep_cell_chg hc s4 nS
            clear hst
            go_wp2
            exact ⟨rfl, _, rfl, rfl, ⟨hI.mono (by omega), hc⟩, fun _ _ h => h⟩
          · refine Owes.mk _ rfl rfl (fun _ _ h => by cases h) fun u m w' hm ⟨hI, hc⟩ hR => ⟨⟨(frm 72 [(49, u 0)]).toArray, []⟩, rfl, fun d hd => by cases hd; exact frm_lt (by decide), ?_⟩
            dsimp only [frm, List.foldl, List.replicate, List.set]
            have hm : m < 11 := hm
            have ev0 : u 0 = _ := hR 0 (by decide)
            clear hR
            rw [ev0]
            have k0 := keep_cell_chg hc s4 nS
            clear hst
            go_wp2
            exact ⟨rfl, _, rfl, rfl, ⟨hI.mono (by omega), hc⟩, fun _ _ h => h⟩
          · refine Owes.mk _ rfl rfl (fun _ _ h => by cases h) fun u m w' hm ⟨hI, hc⟩ hR => ⟨⟨(frm 72 [(0, .pointer (some ⟨rb, 0, none⟩))]).toArray, []⟩, rfl, fun d hd => by cases hd; exact frm_lt (by decide), ?_⟩
            dsimp only [frm, List.foldl, List.replicate, List.set]
            have hm : m < 11 := hm
            clear hR
            go_wp2
            exact ⟨rfl, _, rfl, rfl, ⟨hI.mono (by omega), hc⟩, fun _ _ h => h⟩
          · refine Owes.mk _ rfl rfl (fun _ _ h => by cases h) fun u m w' hm ⟨hI, hc⟩ hR => ⟨⟨(frm 72 [(5, .pointer (some ⟨bs + 1, 0, none⟩))]).toArray, []⟩, rfl, fun d hd => by cases hd; exact frm_lt (by decide), ?_⟩
            dsimp only [frm, List.foldl, List.replicate, List.set]
            have hm : m < 11 := hm
            clear hR
            have k0 := keep_cell_chg hc s4 nS
            clear hst
            go_wp2
            exact ⟨rfl, _, rfl, rfl, ⟨hI.mono (by omega), hc⟩, fun _ _ h => h⟩
          · refine Owes.mk _ rfl rfl (fun _ _ h => by cases h) fun u m w' hm ⟨hI, hc⟩ hR => ⟨⟨(frm 72 [(52, u 3)]).toArray, []⟩, rfl, fun d hd => by cases hd; exact frm_lt (by decide), ?_⟩
            dsimp only [frm, List.foldl, List.replicate, List.set]
            have hm : m < 11 := hm
            have ev0 : u 3 = _ := hR 3 (by decide)
            clear hR
            rw [ev0]
            have k0 := keep_cell_chg hc s4 nS
            clear hst
            go_wp2
            exact ⟨rfl, _, rfl, rfl, ⟨hI.mono (by omega), hc⟩, fun _ _ h => h⟩
          · refine Owes.mk _ rfl rfl (fun _ _ h => by cases h) fun u m w' hm ⟨hI, hc⟩ hR => ⟨⟨(frm 72 [(53, u 4)]).toArray, []⟩, rfl, fun d hd => by cases hd; exact frm_lt (by decide), ?_⟩
            dsimp only [frm, List.foldl, List.replicate, List.set]
            have hm : m < 11 := hm
            have ev0 : u 4 = _ := hR 4 (by decide)
            clear hR
            rw [ev0]
            have k0 := keep_cell_chg hc s4 nS
            clear hst
            go_wp2
            exact ⟨rfl, _, rfl, rfl, ⟨hI.mono (by omega), hc⟩, fun _ _ h => h⟩
          · refine Owes.mk _ rfl rfl (fun _ _ h => by cases h) fun u m w' hm ⟨hI, hc⟩ hR => ⟨⟨(frm 72 [(51, u 2), (54, u 5)]).toArray, []⟩, rfl, fun d hd => by cases hd; exact frm_lt (by decide), ?_⟩
            dsimp only [frm, List.foldl, List.replicate, List.set]
            have hm : m < 11 := hm
            have ev0 : u 2 = _ := hR 2 (by decide)
            have ev1 : u 5 = _ := hR 5 (by decide)
            clear hR
            rw [ev0, ev1]
            have k0 := keep_cell_chg hc s4 nS
            go_wp2_with fail
            refine (pick_any rb fq ((N + 2) + 1 * m) (yn : Int) (by omega) (by omega) (by omega) _ hI).mono ?_
            rintro e wq ⟨x, rfl, lo, hi, g1, g2⟩
            have hs := facts_stable hst g2
            have G1 := Lib.hid (g1.mono (show (N + 2) + 1 * (m : Int) + 1 <= (N + 2) + 1 * ((m + 1 : Nat) : Int) by omega))
            have G2 := Lib.hid (hc.trans' g2)
            have HS := Lib.hid hs
            clear g1 g2 hs hc hI hst
            go_wp2
            exact ⟨rfl, _, rfl, ⟨x, by omega, by omega, rfl⟩, ⟨G1.out, G2.out⟩, HS.out⟩
          · refine Owes.mk _ rfl rfl (fun _ _ h => by cases h) fun u m w' hm ⟨hI, hc⟩ hR => ⟨⟨(frm 72 [(50, u 1), (55, u 6)]).toArray, []⟩, rfl, fun d hd => by cases hd; exact frm_lt (by decide), ?_⟩
            dsimp only [frm, List.foldl, List.replicate, List.set]
            have hm : m < 11 := hm
            have k0 := keep_cell_chg hc s4 nS
            have ev1 : u 1 = _ := hR 1 (by decide)
            obtain ⟨z6, l6, h6, ev6⟩ := hR 6 (by decide)
            rw [ev1, ev6]
            obtain ⟨q, rfl⟩ := Int.eq_ofNat_of_zero_le l6
            have hq : q < yn := by omega
            have hqi : (q : Int) < (yn : Int) := by omega
            clear hR hst ev1 ev6
            go_wp2
            exact ⟨rfl, _, rfl, ⟨q, hq, rfl⟩, ⟨hI.mono (by omega), hc⟩, fun _ _ h => h⟩
          · refine Owes.mk _ rfl rfl (fun _ _ h => by cases h) fun u m w' hm ⟨hI, hc⟩ hR => ⟨⟨(frm 72 [(56, u 7)]).toArray, []⟩, rfl, fun d hd => by cases hd; exact frm_lt (by decide), ?_⟩
            dsimp only [frm, List.foldl, List.replicate, List.set]
            have hm : m < 11 := hm
            have k0 := keep_cell_chg hc s4 nS
            obtain ⟨q, hq, ev7⟩ := hR 7 (by decide)
            rw [ev7]
            obtain ⟨y, ea, en, ec, g0, g1, g2, g3, g4⟩ := HJ.out q hq
            have g0 := keep_cell_chg hc g0 nbl
            have g1 := keep_cell_chg hc g1 nbl
            have g2 := keep_cell_chg hc g2 nbl
            have g3 := keep_cell_chg hc g3 nbl
            have g4 := keep_cell_chg hc g4 nbl
            have HI := Lib.hid hI
            have HCc := Lib.hid hc
            clear hR hst ev7 hI hc
            go_wp2
            exact ⟨rfl, _, rfl, ⟨y, ea, en, ec, rfl⟩, ⟨HI.out.mono (by omega), HCc.out⟩, fun _ _ h => h⟩
          · refine Owes.mk _ rfl rfl (fun _ _ h => by cases h) fun u m w' hm ⟨hI, hc⟩ hR => ⟨⟨(frm 72 []).toArray, []⟩, rfl, fun d hd => by cases hd; exact frm_lt (by decide), ?_⟩
            dsimp only [frm, List.foldl, List.replicate, List.set]
            have hm : m < 11 := hm
            have k0 := keep_cell_chg hc s4 nS
            have ba := below_alloc w' (.cells #[.int .i64 0, .int .i64 0, .int .i64 0, .int .i64 0, .slice none 0 0] 64)
            have hz9 : bs + 1 + 1 + 1 <= w'.heap.size := by have := R3'.out.1; have := hc.size; omega
            have HS8 := Lib.hid (facts_stable hst (ba.chg [rb]))
            have HI := Lib.hid ((hI.below ba).mono (show (N + 2) + 1 * (m : Int) <= (N + 2) + 1 * ((m + 1 : Nat) : Int) by omega))
            have HCc := Lib.hid (hc.trans' (ba.chg _))
            clear hR hst hI hc ba
            go_wp2
            exact ⟨rfl, _, rfl, ⟨w'.heap.size, rfl, room_alloc rfl (by simp), by simp; omega, hz9⟩, ⟨HI.out.mono (by omega), HCc.out⟩, HS8.out⟩
         case hend =>
          intro u w' ⟨hI, hc⟩ hR
          simp only [setAll, List.set_cons_zero, List.set_cons_succ]
          obtain ⟨y, ea, en, ec, e8⟩ := hR 8 (by decide)
          obtain ⟨q, e9, hq, hqn, hqb⟩ := hR 9 (by decide)
          rw [e8, e9]
          obtain ⟨y0, p0_⟩ := hq.2.1 0 (by omega)
          obtain ⟨y1, p1_⟩ := hq.2.1 1 (by omega)
          obtain ⟨y2, p2_⟩ := hq.2.1 2 (by omega)
          obtain ⟨y3, p3_⟩ := hq.2.1 3 (by omega)
          obtain ⟨y4, p4_⟩ := hq.2.1 4 (by omega)
          have f0_ := hq.2.2 0
          have f1_ := hq.2.2 1
          have f2_ := hq.2.2 2
          have f3_ := hq.2.2 3
          have f4_ := hq.2.2 4
          have RE := Lib.hid (R3'.out.chg hc nE)
          have HIx := Lib.hid hI
          have HCx := Lib.hid (C3.out.trans' hc)
          clear hR hI hc hst e8 e9 hq s4
          go_upto_region 12 with fail
          obtain ⟨w4, hw4⟩ : ∃ z, z = ((((w'.setCell ⟨q, 0, none⟩ (.int .i64 y.who)).setCell ⟨q, 1, none⟩ (.int .i64 y.n)).setCell ⟨q, 2, none⟩ (.int .i64 y.rsp.id)).setCell ⟨q, 3, none⟩ (.int .i64 y.rsp.code)).setCell ⟨q, 4, none⟩ (.slice ea en ec) := ⟨_, rfl⟩
          obtain ⟨d0, d1, d2⟩ := fin5 _ _ _ _ _ p0_ p1_ hw4
          rw [<- hw4]
          have H4 := Lib.hid (HIx.out.chg d2 (by simp; omega) (fun c hc e => by have := FL.out c hc; have := HBS.out; simp at e; omega))
          have R4 := Lib.hid (RE.out.chg d2 (by simp; omega))
          have hC4 : Chg [rb] w w4 := (((B1.out.chg [rb]).trans' HCx.out).trans d2).drop (fun c hc hl => by rcases List.mem_append.1 hc with hc | hc; exact hc; have := HBS.out; simp at hc; omega)
          have C4 := Lib.hid hC4
          clear hw4 d2 hC4 HIx RE HCx p0_ p1_ p2_ p3_ p4_ f0_ f1_ f2_ f3_ f4_
          obtain ⟨u0, r0⟩ := R4.out.2.1 0 (by omega)
          obtain ⟨u1, r1⟩ := R4.out.2.1 1 (by omega)
          obtain ⟨u2, r2⟩ := R4.out.2.1 2 (by omega)
          have f0 := R4.out.2.2 0
          have f1 := R4.out.2.2 1
          have f2 := R4.out.2.2 2
          go_wp2
          obtain ⟨t0, t1, t2, t3⟩ := fin3 (.int .i64 3) (.int .i64 y.who) (.int .i64 y.n) r0 r1 r2
          have hfin : EvPost rb fq (N + 20) w (.returned (.agg #[.int .i64 3, .int .i64 y.who, .int .i64 y.n])) _ := ⟨_, _, _, rfl, (H4.out.chg t3 (by simp; omega) (fun c hc e => by have := FL.out c hc; have := HBS.out; simp at e; omega)).mono (by simp; omega), (C4.out.trans t3).drop (fun c hc hl => by rcases List.mem_append.1 hc with hc | hc; exact hc; have := HBS.out; simp at hc; omega)⟩
          exact bodyPost_ret (by simp [results, Try.results72, go_sem, t0, t1, t2]) rfl hfin
       · have hy0i : ¬ ((0 : Int) < (yn : Int)) := by omega
         clear p0 p1
         go_wp2_with fail
         refine (pick_any rb fq (N + 2) 5 (by omega) (by omega) (by omega) _ (H3.out.mono (by omega))).mono ?_
         rintro e w4 ⟨x4, rfl, lo4, hi4, h1, h2⟩
         have H4 := Lib.hid h1
         have C4 := Lib.hid (C3.out.trans' h2)
         have R4 := Lib.hid (R3'.out.chg h2 nE)
         clear h1 h2
         go_wp2_with fail
         refine (pick_any rb fq (N + 3) 5 (by omega) (by omega) (by omega) _ (H4.out.mono (by omega))).mono ?_
         rintro e w5 ⟨x5, rfl, lo5, hi5, h1, h2⟩
         have H5 := Lib.hid h1
         have C5 := Lib.hid (C4.out.trans' h2)
         have R5 := Lib.hid (R4.out.chg h2 nE)
         clear h1 h2
         go_wp2_with fail
         refine (pick_any rb fq (N + 4) 5 (by omega) (by omega) (by omega) _ (H5.out.mono (by omega))).mono ?_
         rintro e w6 ⟨x6, rfl, lo6, hi6, h1, h2⟩
         have H6 := Lib.hid h1
         have C6 := Lib.hid (C5.out.trans' h2)
         have R6 := Lib.hid (R5.out.chg h2 nE)
         clear h1 h2
         obtain ⟨u0, r0⟩ := R6.out.2.1 0 (by omega)
         obtain ⟨u1, r1⟩ := R6.out.2.1 1 (by omega)
         obtain ⟨u2, r2⟩ := R6.out.2.1 2 (by omega)
         have f0 := R6.out.2.2 0
         have f1 := R6.out.2.2 1
         have f2 := R6.out.2.2 2
         go_wp2
         obtain ⟨t0, t1, t2, t3⟩ := fin3 (.int .i64 x4) (.int .i64 (x5 - 1)) (.int .i64 (x6 - 1)) r0 r1 r2
         have hfin : EvPost rb fq (N + 20) w (.returned (.agg #[.int .i64 x4, .int .i64 (x5 - 1), .int .i64 (x6 - 1)])) _ := ⟨_, _, _, rfl, (H6.out.chg t3 (by simp; omega) (fun c hc e => by have := FL.out c hc; have := HBS.out; simp at e; omega)).mono (by omega), (((B1.out.chg [rb]).trans' C6.out).trans t3).drop (fun c hc hl => by rcases List.mem_append.1 hc with hc | hc; exact hc; have := HBS.out; simp at hc; omega)⟩
         exact bodyPost_ret (by simp [results, Try.results72, go_sem, t0, t1, t2]) rfl hfin
     · have p2 : (x3 == 2) = false := by simpa using hp2
       go_upto_region 13 with fail
       clear p0 p1 p2
       go_wp2_with fail
       refine (pick_any rb fq (N + 2) 5 (by omega) (by omega) (by omega) _ (H3.out.mono (by omega))).mono ?_
       rintro e w4 ⟨x4, rfl, lo4, hi4, h1, h2⟩
       have H4 := Lib.hid h1
       have C4 := Lib.hid (C3.out.trans' h2)
       have R4 := Lib.hid (R3'.out.chg h2 nE)
       clear h1 h2
       go_wp2_with fail
       refine (pick_any rb fq (N + 3) 5 (by omega) (by omega) (by omega) _ (H4.out.mono (by omega))).mono ?_
       rintro e w5 ⟨x5, rfl, lo5, hi5, h1, h2⟩
       have H5 := Lib.hid h1
       have C5 := Lib.hid (C4.out.trans' h2)
       have R5 := Lib.hid (R4.out.chg h2 nE)
       clear h1 h2
       go_wp2_with fail
       refine (pick_any rb fq (N + 4) 5 (by omega) (by omega) (by omega) _ (H5.out.mono (by omega))).mono ?_
       rintro e w6 ⟨x6, rfl, lo6, hi6, h1, h2⟩
       have H6 := Lib.hid h1
       have C6 := Lib.hid (C5.out.trans' h2)
       have R6 := Lib.hid (R5.out.chg h2 nE)
       clear h1 h2
       obtain ⟨u0, r0⟩ := R6.out.2.1 0 (by omega)
       obtain ⟨u1, r1⟩ := R6.out.2.1 1 (by omega)
       obtain ⟨u2, r2⟩ := R6.out.2.1 2 (by omega)
       have f0 := R6.out.2.2 0
       have f1 := R6.out.2.2 1
       have f2 := R6.out.2.2 2
       go_wp2
       obtain ⟨t0, t1, t2, t3⟩ := fin3 (.int .i64 x4) (.int .i64 (x5 - 1)) (.int .i64 (x6 - 1)) r0 r1 r2
       have hfin : EvPost rb fq (N + 20) w (.returned (.agg #[.int .i64 x4, .int .i64 (x5 - 1), .int .i64 (x6 - 1)])) _ := ⟨_, _, _, rfl, (H6.out.chg t3 (by simp; omega) (fun c hc e => by have := FL.out c hc; have := HBS.out; simp at e; omega)).mono (by omega), (((B1.out.chg [rb]).trans' C6.out).trans t3).drop (fun c hc hl => by rcases List.mem_append.1 hc with hc | hc; exact hc; have := HBS.out; simp at hc; omega)⟩
       exact bodyPost_ret (by simp [results, Try.results72, go_sem, t0, t1, t2]) rfl hfin
end Go.Proofs.Ytmcjklicepaiaaa
