/-
 Texts of this claim laid together: TS3.
-/
import Derived.Test.YtmcjklicepaiaaaPk19
import Derived.Test.YtmcjklicepaiaaaPk08
import Derived.Test.YtmcjklicepaiaaaPk17
set_option linter.unusedVariables false
set_option linter.unusedSimpArgs false
namespace Go.Proofs.Ytmcjklicepaiaaa
def tbl5Step1 : List (List Nat) := [[], [0], [0, 1], [0, 1, 2], [0, 1, 2, 3], [0, 1, 2, 3, 4], [0, 1, 2, 3, 4, 5], [0, 1, 2, 3, 4], [0, 1, 2, 3, 4, 7], [0, 1, 2, 3, 4], [0, 1, 2, 3, 4, 9], [0, 1, 2, 3, 4, 7, 8, 9, 10], [0, 1, 2, 3, 4, 7, 8, 9, 10, 11], [0, 1, 2, 3, 4, 7, 8, 9, 10, 11, 12], [0, 1, 2, 3, 4, 7, 8, 9, 10, 11, 12, 13], [0, 1, 2, 3, 4, 5, 6, 7, 8, 9, 10, 11, 12, 13, 14], [0, 1, 2, 3, 4, 5, 6, 7, 8, 9, 10, 11, 12, 13, 14, 15], [0, 1, 2, 3, 4, 5, 6, 7, 8, 9, 10, 11, 12, 13, 14, 15, 16]]
def tbl5Step5 : List (List Nat) := [[], [0], [], [2], [], [4], [2, 3, 4, 5], [2, 3, 4, 5, 6], [0, 1, 2, 3, 4, 5, 6, 7]]
def tbl5Step23 : List (List Nat) := [[], [0], [], [2], [], [2, 3, 4], [2, 3, 4, 5], [2, 3, 4, 5, 6], [0, 1, 2, 3, 4, 5, 6, 7], [0, 1, 2, 3, 4, 5, 6, 7, 8], [0, 1, 2, 3, 4, 5, 6, 7, 8, 9]]
open Go.RowKit Go.ChangeShapes Go.WideShapes
theorem fin6 {w : World} {c b : Nat} {x0 x1 x2 x3 x4 x5 u0 u1 u2 u3 u4 u5 : Value} (_ : w.cell? ⟨c, 0, none⟩ = some x0) (_ : w.cell? ⟨c, 1, none⟩ = some x1) (_ : w.cell? ⟨c, 2, none⟩ = some x2) (_ : w.cell? ⟨c, 3, none⟩ = some x3) (_ : w.cell? ⟨c, 4, none⟩ = some x4) (_ : w.cell? ⟨c, 5, none⟩ = some x5)
 (h0 : w.cell? ⟨b, 0, none⟩ = some u0) (h1 : w.cell? ⟨b, 1, none⟩ = some u1) (h2 : w.cell? ⟨b, 2, none⟩ = some u2) (h3 : w.cell? ⟨b, 3, none⟩ = some u3) (h4 : w.cell? ⟨b, 4, none⟩ = some u4) (h5 : w.cell? ⟨b, 5, none⟩ = some u5) :
 (w.setCell ⟨b, 0, none⟩ x0).cell? ⟨b, 0, none⟩ = some x0 ∧ ((w.setCell ⟨b, 0, none⟩ x0).setCell ⟨b, 1, none⟩ x1).cell? ⟨b, 1, none⟩ = some x1 ∧ (((w.setCell ⟨b, 0, none⟩ x0).setCell ⟨b, 1, none⟩ x1).setCell ⟨b, 2, none⟩ x2).cell? ⟨b, 2, none⟩ = some x2 ∧
 ((((w.setCell ⟨b, 0, none⟩ x0).setCell ⟨b, 1, none⟩ x1).setCell ⟨b, 2, none⟩ x2).setCell ⟨b, 3, none⟩ x3).cell? ⟨b, 3, none⟩ = some x3 ∧ (((((w.setCell ⟨b, 0, none⟩ x0).setCell ⟨b, 1, none⟩ x1).setCell ⟨b, 2, none⟩ x2).setCell ⟨b, 3, none⟩ x3).setCell ⟨b, 4, none⟩ x4).cell? ⟨b, 4, none⟩ = some x4 ∧
 ((((((w.setCell ⟨b, 0, none⟩ x0).setCell ⟨b, 1, none⟩ x1).setCell ⟨b, 2, none⟩ x2).setCell ⟨b, 3, none⟩ x3).setCell ⟨b, 4, none⟩ x4).setCell ⟨b, 5, none⟩ x5).cell? ⟨b, 5, none⟩ = some x5 ∧ Chg [b] w ((((((w.setCell ⟨b, 0, none⟩ x0).setCell ⟨b, 1, none⟩ x1).setCell ⟨b, 2, none⟩ x2).setCell ⟨b, 3, none⟩ x3).setCell ⟨b, 4, none⟩ x4).setCell ⟨b, 5, none⟩ x5) :=
 ⟨setSame _ h0, setSame _ (setOther _ (by decide) h1), setSame _ (setOther _ (by decide) (setOther _ (by decide) h2)), setSame _ (setOther _ (by decide) (setOther _ (by decide) (setOther _ (by decide) h3))), setSame _ (setOther _ (by decide) (setOther _ (by decide) (setOther _ (by decide) (setOther _ (by decide) h4)))),
  setSame _ (setOther _ (by decide) (setOther _ (by decide) (setOther _ (by decide) (setOther _ (by decide) (setOther _ (by decide) h5))))), (((((store_chg _).trans' (store_chg _)).trans' (store_chg _)).trans' (store_chg _)).trans' (store_chg _)).trans' (store_chg _)⟩
theorem BusV.asked {G : Gd} {L : List Nat} {T : Tab} {w : World} {lm : List MR} {vm vl : Value} {fm : List Nat} {pb po pc k : Nat} (h : BusV G L lm vm vl fm (some ⟨pb, po, none⟩) pc T w) (hT : TH G L T w) (hk : k < 3) :
 ∃ ra rn rc, w.cell? ⟨pb, po + k, none⟩ = some (.slice ra rn rc) ∧ SlA T 2 ra rn rc ∧ rn <= G.cap ∧ ∃ (ps : List (List Req)) (fp : List Nat), SlR 1 (slR 7 reqR) w ps (.slice (some ⟨pb, po, none⟩) 3 pc) fp ∧ ∃ hl : k < ps.length, ps[k].length = rn := by
 obtain ⟨ra, rn, rc, hc, hA, hn, -⟩ := h.prg.t.row hk hT
 obtain ⟨ps, fp, hs, -⟩ := h.prg.t.progs hT h.prg.1 h.prg.2.1
 refine ⟨ra, rn, rc, hc, hA, hn, ps, fp, hs, ?_⟩
 obtain ⟨a, n, c, e, hn', _, _, _, r⟩ := hs.opened
 simp only [Value.slice.injEq] at e
 obtain ⟨rfl, rfl, rfl⟩ := e
 obtain ⟨hl, b', o', f, cs, e', _, _, _, ⟨v, rfl, hR⟩, hcell⟩ := r k hk
 simp only [Option.some.injEq, Addr.mk.injEq, and_true] at e'
 obtain ⟨rfl, rfl⟩ := e'
 have h0 := hcell 0 (by simp)
 simp only [Nat.mul_one, Nat.add_zero, List.getElem_cons_zero] at h0
 rw [hc] at h0
 cases h0
 obtain ⟨_, _, _, e2, hl2, _⟩ := hR
 cases e2
 exact ⟨hl, hl2⟩
def FJob (cs : List Value) : Fact := fun v w => ∃ b : Nat, v = .slice (some ⟨b, 0, none⟩) 1 1 ∧ ∀ j (hj : j < cs.length), w.cell? ⟨b, j, none⟩ = some cs[j]
theorem stJob (cs : List Value) : Stable [] (FJob cs) := fun _ _ _ ⟨b, e, h⟩ hc => ⟨b, e, fun j hj => keep_cell_chg hc (h j hj) (by simp)⟩
theorem newJob {G : Gd} {L : List Nat} {T : Tab} {w : World} (k j : Nat) (hk : k < 3) (hj : j <= 1000) : UnitOk G L T w 3 [.int .i64 (k : Int), .int .i64 (j : Int), .int .i64 0, .int .i64 0, .slice none 0 0] :=
 ⟨⟨k, j, ⟨0, 0, []⟩⟩, [], ⟨.slice none 0 0, [], rfl, rfl, none, 0, 0, rfl, rfl, Nat.le_refl _, Nat.zero_le _, .inl ⟨rfl, rfl⟩⟩, ⟨by show 0 <= (k : Int); omega, by show (k : Int) <= 2; omega, by show 0 <= (j : Int); omega, by show (j : Int) <= 1000000; omega, Nat.zero_le _⟩, Fz.nil _ _ _⟩
set_option maxRecDepth 100000 in
set_option maxHeartbeats 25600000 in
theorem l5Step_b (L : List Nat) (T0 : Tab) (lm : List MR) (vm vl vw vh va : Value) (fm fw fh fa : List Nat) (pa : Option Addr) (pc m : Nat) (kd wo nn : Int) (hm : m <= 900) (w : World) (ms hs qs : List Int) (xa : Option Addr) (xn xc : Nat) (ya : Option Addr) (yn yc : Nat) (za : Option Addr) (zn zc : Nat)
 (C0 : TlmC L fw fh fa) (th : TH gFit L T0 w) (bv : BusV gFit L lm vm vl fm pa pc T0 w) (tv : TlmV L vw vh va fw fh fa m T0 w ms hs qs xa xn xc ya yn yc za zn zc) :
 Calls Try.prog 112 #[.agg #[vm, vl, .slice pa 3 pc], .agg #[vw, vh, va, .slice xa xn xc, .slice ya yn yc, .slice za zn zc], .agg #[.int .i64 kd, .int .i64 wo, .int .i64 nn]] w (StPost gFit L T0 w lm vm vl fm pa pc vw vh va fw fh fa m wo) := by
 obtain ⟨i0, ki, kz0, kz1, kz2⟩ := info_parts infoJob
 obtain ⟨pb, po, rfl⟩ := bv.prg.t.addr (by omega)
 obtain ⟨am, nm, cm, rfl⟩ := bv.mp.form
 obtain ⟨al, nl, cl, rfl⟩ := bv.vl
 obtain ⟨aw, nw, cw, rfl⟩ := tv.mem.form
 obtain ⟨ah, nh, ch, rfl⟩ := tv.hol.form
 obtain ⟨aa, an, ac, rfl⟩ := tv.ask.form
 obtain ⟨w1, hw1⟩ : ∃ z, z = (((w.alloc (.cells #[.slice am nm cm, .slice al nl cl, .slice (some ⟨pb, po, none⟩) 3 pc] 38)).alloc (.cells #[.slice aw nw cw, .slice ah nh ch, .slice aa an ac, .slice xa xn xc, .slice ya yn yc, .slice za zn zc] 70)).alloc (.cells #[.int .i64 kd, .int .i64 wo, .int .i64 nn] 47)).alloc (.cells #[.slice none 0 0, .slice none 0 0, .slice none 0 0, .slice none 0 0, .slice none 0 0, .slice none 0 0] 70) := ⟨_, rfl⟩
 have b1 : Below w.heap.size w w1 := by rw [hw1]; exact (((below_alloc _ _).trans ((below_alloc _ _).mono (by simp))).trans ((below_alloc _ _).mono (by simp; omega))).trans ((below_alloc _ _).mono (by simp; omega))
 have z1 : w1.heap.size = w.heap.size + 1 + 1 + 1 + 1 := by rw [hw1]; simp
 have hlw : ∀ c, c ∈ fw ++ fh ++ fa -> c < w.heap.size := fun c hc => th.old c (C0.inL c hc)
 have C : StC L w.heap.size w fm fw fh fa := ⟨rfl, C0, hlw, fun c hc => bv.mp.lt mrR_fits c hc⟩
 have B : StB gFit L w.heap.size T0 w lm (.slice am nm cm) (.slice al nl cl) fm (some ⟨pb, po, none⟩) pc (.slice aw nw cw) (.slice ah nh ch) (.slice aa an ac) fw fh fa m kd wo nn T0 w1 ms hs qs xa xn xc ya yn yc za zn zc := by
  have f4 : ∀ fp, Fz L T0 w fp -> Fz (bx w.heap.size ++ L) T0 w1 fp := fun fp hf d hd => by
   obtain ⟨g1, g2, g3⟩ := hf d hd
   refine ⟨g1, ?_, by omega⟩
   simp only [List.mem_append, not_or]
   exact ⟨fun e => by have := bx_lo e; omega, g2⟩
  have cb : ∀ j (hj : j < 3), w1.cell? ⟨w.heap.size, j, none⟩ = some ((#[.slice am nm cm, .slice al nl cl, .slice (some ⟨pb, po, none⟩) 3 pc] : Array Value)[j]'hj) := fun j hj => by
   rw [hw1]; exact alloc_keep (alloc_keep (alloc_keep (alloc_at rfl (by simp [show j < 3 from hj])) _) _) _
  have cs : ∀ j (hj : j < 6), w1.cell? ⟨w.heap.size + 1, j, none⟩ = some ((#[.slice aw nw cw, .slice ah nh ch, .slice aa an ac, .slice xa xn xc, .slice ya yn yc, .slice za zn zc] : Array Value)[j]'hj) := fun j hj => by
   rw [hw1]; exact alloc_keep (alloc_keep (alloc_at (by simp) (by simp [show j < 6 from hj])) _) _
  have ce : ∀ j (hj : j < 3), w1.cell? ⟨w.heap.size + 1 + 1, j, none⟩ = some ((#[.int .i64 kd, .int .i64 wo, .int .i64 nn] : Array Value)[j]'hj) := fun j hj => by
   rw [hw1]; exact alloc_keep (alloc_at (by simp) (by simp [show j < 3 from hj])) _
  have fr1 : RoomAt (w.heap.size + 1) 6 w1 := by rw [hw1]; exact ((room_alloc (by simp) (by simp)).below (below_alloc _ _)).below (below_alloc _ _)
  refine ⟨th.opens b1 (fun c hc => (bx_lo hc).1) (fun c hc => by have := (bx_lo hc).2; omega), Step.of_below _ b1, ⟨bv.mp.below mrR_fits b1, f4 _ bv.fz, bv.prg, ⟨_, _, _, rfl⟩⟩, tv.chg (b1.chg []) (by simp), cb 0 (by decide), cb 1 (by decide), cb 2 (by decide), cs 0 (by decide), cs 1 (by decide), cs 2 (by decide), cs 3 (by decide), cs 4 (by decide), cs 5 (by decide), ce 0 (by decide), ce 1 (by decide), ce 2 (by decide), fr1.2.2, ?_⟩
  rw [hw1]; exact room_alloc (by simp) (by simp)
 have HC := Lib.hid C
 have HB := Lib.hid B
 clear C0 th bv tv b1 z1 hlw C B
 go_enter Try.func112, Try.ntmps112
 go_upto_region 1 with fail
 rw [<- hw1]
 clear hw1
 obtain ⟨bs, hbs⟩ : ∃ z, z = w.heap.size := ⟨_, rfl⟩
 rw [<- hbs] at HC HB
 rw [<- hbs]
 clear hbs
 have b2 := HB.out.b2
 have ve1 := HB.out.e1
 have ve2 := HB.out.e2
 cases hwo : inB wo 0 2
 · have Q1 := Lib.hid hwo
   clear hwo
   have hst : ∀ F, F ∈ [FEq (.pointer (some ⟨bs + 1 + 1, 1, none⟩)), FEq (.int .i64 wo), FEq (.bool false), FEq (.bool true), FEq (.bool true), FEq undef, FEq undef, FEq undef, FEq undef, FEq undef, FEq undef, FEq undef, FEq undef, FEq undef, FEq undef, FEq undef, FEq undef, FEq (.bool true)] -> Stable [] F := by
    simp only [List.forall_mem_cons]
    exact ⟨stEq _ _, stEq _ _, stEq _ _, stEq _ _, stEq _ _, stEq _ _, stEq _ _, stEq _ _, stEq _ _, stEq _ _, stEq _ _, stEq _ _, stEq _ _, stEq _ _, stEq _ _, stEq _ _, stEq _ _, stEq _ _, fun _ h => by simp at h⟩
   refine wp_region_skip (by kernel_rfl) (fun i => (tbl5Step1 : List (List Nat)).getD i []) (facts [FEq (.pointer (some ⟨bs + 1 + 1, 1, none⟩)), FEq (.int .i64 wo), FEq (.bool false), FEq (.bool true), FEq (.bool true), FEq undef, FEq undef, FEq undef, FEq undef, FEq undef, FEq undef, FEq undef, FEq undef, FEq undef, FEq undef, FEq undef, FEq undef, FEq (.bool true)]) (fun m w' => Below w1.heap.size w1 w') 175 18 18 [some 12, some 13, some 14, some 15, some 16, some 17, some 18, some 19, some 20, some 21, some 22, some 23, some 24, some 25, some 26, some 27, some 28, some 29] [] rfl rfl (by decide) rfl rfl (by kernel_rfl) (by kernel_rfl) [5, 6, 7, 8, 9, 10, 11, 12, 13, 14, 15, 16] [(4, true)] (by kernel_rfl) (fun g b hm v w h => by simp only [List.mem_cons, List.not_mem_nil, or_false, Prod.mk.injEq] at hm; obtain ⟨rfl, rfl⟩ := hm; exact h) (fun i hi w => by simp only [List.mem_cons, List.not_mem_nil, or_false] at hi; rcases hi with rfl | rfl | rfl | rfl | rfl | rfl | rfl | rfl | rfl | rfl | rfl | rfl <;> rfl) (fun _ _ h => h) ?h0 (all_lt (n := 18) ?hop) ?hend
   case h0 => exact (Below.refl _ _).drew
   case hop =>
    refine ⟨⟨⟨⟨⟨⟨⟨⟨⟨⟨⟨⟨⟨⟨⟨⟨⟨⟨trivial, ?_⟩, ?_⟩, ?_⟩, ?_⟩, ?_⟩, ?_⟩, ?_⟩, ?_⟩, ?_⟩, ?_⟩, ?_⟩, ?_⟩, ?_⟩, ?_⟩, ?_⟩, ?_⟩, ?_⟩, ?_⟩
    all_goals first | exact .inl (by decide) | skip
    · refine .inr (Owes.q 175 (fun u => [(5, .pointer (some ⟨bs + 1 + 1, 0, none⟩))]) fun u w' hI hR => ?_); dsimp only [frm, List.foldl, List.replicate, List.set]; clear hI hst hR; go_wp2; exact ⟨rfl, _, rfl, rfl, rfl⟩
    · refine .inr (Owes.q 175 (fun u => [(12, u 0)]) fun u w' hI hR => ?_); dsimp only [frm, List.foldl, List.replicate, List.set]; obtain ⟨_, hI⟩ := hI; have k0 := keep_cell hI ve1; have e0 : u 0 = _ := hR 0 (by decide); rw [e0]; clear hI hst hR; go_wp2; exact ⟨rfl, _, rfl, rfl, rfl⟩
    · refine .inr (Owes.mk _ rfl rfl (fun _ _ h => by cases h) fun u m w' hm hI hR => ⟨⟨(frm 175 [(13, u 1)]).toArray, []⟩, rfl, fun d hd => by cases hd; exact frm_lt (by decide), ?_⟩)
      dsimp only [frm, List.foldl, List.replicate, List.set]
      have e1 : u 1 = _ := hR 1 (by decide)
      have k0 := keep_cell hI ve1
      have k1 := keep_cell hI ve2
      rw [e1]
      clear e1
      have HI := Lib.hid hI
      clear hI hst
      go_wp2_with fail
      refine (l1In_q _ _ _ _).mono ?_
      rintro e w5 ⟨rfl, rfl⟩
      go_wp2
      exact ⟨rfl, _, rfl, (by show Value.bool _ = Value.bool _; rw [Q1.out]), HI.out, fun _ _ h => h⟩
    · refine .inr (Owes.q 175 (fun u => [(14, u 2)]) fun u w' hI hR => ?_); dsimp only [frm, List.foldl, List.replicate, List.set]; have e2 : u 2 = _ := hR 2 (by decide); rw [e2]; clear hI hst hR; go_wp2; exact ⟨rfl, _, rfl, rfl, rfl⟩
    · refine .inr (Owes.q 175 (fun u => [(15, u 3)]) fun u w' hI hR => ?_); dsimp only [frm, List.foldl, List.replicate, List.set]; have e3 : u 3 = _ := hR 3 (by decide); rw [e3]; clear hI hst hR; go_wp2; exact ⟨rfl, _, rfl, rfl, rfl⟩
    · refine .inr (Owes.q 175 (fun u => [(16, u 4), (28, u 16)]) fun u w' hI hR => ?_); dsimp only [frm, List.foldl, List.replicate, List.set]; have e4 : u 4 = _ := hR 4 (by decide); have e16 : u 16 = _ := hR 16 (by decide); rw [e4, e16]; clear hI hst hR; go_wp2; exact ⟨rfl, _, rfl, rfl, rfl⟩
   case hend =>
    intro u w' hI hR
    simp only [setAll, List.set_cons_zero, List.set_cons_succ]
    unfold wpList
    have e17 : u 17 = _ := hR 17 (by decide)
    rw [e17]
    obtain ⟨w2, hw2⟩ : ∃ z, z = w' := ⟨_, rfl⟩
    subst hw2
    have HBn := Lib.hid (HB.out.below HC.out hI)
    clear hR hI hst e17 HB
    have HB := HBn
    clear HBn
    clear b2 ve1 ve2
    go_upto_region 2 with fail
    have d0 := HB.out.s0
    have d1 := HB.out.s1
    have d2 := HB.out.s2
    have d3 := HB.out.s3
    have d4 := HB.out.s4
    have d5 := HB.out.s5
    obtain ⟨y0, r0⟩ := HB.out.rs.2.1 0 (by omega)
    obtain ⟨y1, r1⟩ := HB.out.rs.2.1 1 (by omega)
    obtain ⟨y2, r2⟩ := HB.out.rs.2.1 2 (by omega)
    obtain ⟨y3, r3⟩ := HB.out.rs.2.1 3 (by omega)
    obtain ⟨y4, r4⟩ := HB.out.rs.2.1 4 (by omega)
    obtain ⟨y5, r5⟩ := HB.out.rs.2.1 5 (by omega)
    have f0 := HB.out.rs.2.2 0
    have f1 := HB.out.rs.2.2 1
    have f2 := HB.out.rs.2.2 2
    have f3 := HB.out.rs.2.2 3
    have f4 := HB.out.rs.2.2 4
    have f5 := HB.out.rs.2.2 5
    go_wp2
    obtain ⟨t0, t1, t2, t3, t4, t5, t6⟩ := fin6 d0 d1 d2 d3 d4 d5 r0 r1 r2 r3 r4 r5
    have hfin := (StB.mono (m' := m + 1) HB.out (by omega)).done (ok := false) HC.out t6 (fun h => by cases h)
    exact bodyPost_ret (by simp [results, Try.results112, go_sem, t0, t1, t2, t3, t4, t5]) rfl hfin
 · obtain ⟨hk0, hk2⟩ := inB_true.1 hwo
   obtain ⟨k, rfl⟩ := Int.eq_ofNat_of_zero_le hk0
   have Q1 := Lib.hid hwo
   have hk3 : k < 3 := by omega
   have hk3i : (k : Int) < 3 := by omega
   obtain ⟨ra, rn, rc, crow, hrA, hrn, ps, fps, hps, hkl, hpl⟩ := HB.out.bv.asked HB.out.th hk3
   have hrn12 : rn <= 12 := hrn
   clear hwo hk0 hk2 hrn
   cases hno : inB nn 0 ((rn : Int) - 1)
   · have Q2 := Lib.hid hno
     clear hno hrA hps hpl
     have hst : ∀ F, F ∈ [FEq (.pointer (some ⟨bs + 1 + 1, 1, none⟩)), FEq (.int .i64 (k : Int)), FEq (.bool true), FEq (.bool false), FEq (.bool false), FEq (.pointer (some ⟨bs + 1 + 1, 2, none⟩)), FEq (.int .i64 nn), FEq (.pointer (some ⟨bs, 2, none⟩)), FEq (.slice (some ⟨pb, po, none⟩) 3 pc), FEq (.pointer (some ⟨bs + 1 + 1, 1, none⟩)), FEq (.int .i64 (k : Int)), FEq (.pointer (some ⟨pb, po + k, none⟩)), FEq (.slice ra rn rc), FEq (.int .i64 (rn : Int)), FEq (.int .i64 ((rn : Int) - 1)), FEq (.bool false), FEq (.bool true), FEq (.bool true)] -> Stable [] F := by
      simp only [List.forall_mem_cons]
      exact ⟨stEq _ _, stEq _ _, stEq _ _, stEq _ _, stEq _ _, stEq _ _, stEq _ _, stEq _ _, stEq _ _, stEq _ _, stEq _ _, stEq _ _, stEq _ _, stEq _ _, stEq _ _, stEq _ _, stEq _ _, stEq _ _, fun _ h => by simp at h⟩
     refine wp_region_tail (by kernel_rfl) (fun i => (tbl5Step1 : List (List Nat)).getD i []) (facts [FEq (.pointer (some ⟨bs + 1 + 1, 1, none⟩)), FEq (.int .i64 (k : Int)), FEq (.bool true), FEq (.bool false), FEq (.bool false), FEq (.pointer (some ⟨bs + 1 + 1, 2, none⟩)), FEq (.int .i64 nn), FEq (.pointer (some ⟨bs, 2, none⟩)), FEq (.slice (some ⟨pb, po, none⟩) 3 pc), FEq (.pointer (some ⟨bs + 1 + 1, 1, none⟩)), FEq (.int .i64 (k : Int)), FEq (.pointer (some ⟨pb, po + k, none⟩)), FEq (.slice ra rn rc), FEq (.int .i64 (rn : Int)), FEq (.int .i64 ((rn : Int) - 1)), FEq (.bool false), FEq (.bool true), FEq (.bool true)]) (fun m w' => Below w1.heap.size w1 w') 175 18 18 [some 12, some 13, some 14, some 15, some 16, some 17, some 18, some 19, some 20, some 21, some 22, some 23, some 24, some 25, some 26, some 27, some 28, some 29] [] rfl rfl (by decide) rfl rfl (by kernel_rfl) (by kernel_rfl) [(4, false)] (by kernel_rfl) (fun g b hm v w h => by simp only [List.mem_cons, List.not_mem_nil, or_false, Prod.mk.injEq] at hm; obtain ⟨rfl, rfl⟩ := hm; exact h) ?h0 (all_lt (n := 18) ?hop) ?hend
     case h0 => exact (Below.refl _ _).drew
     case hop =>
      refine ⟨⟨⟨⟨⟨⟨⟨⟨⟨⟨⟨⟨⟨⟨⟨⟨⟨⟨trivial, ?_⟩, ?_⟩, ?_⟩, ?_⟩, ?_⟩, ?_⟩, ?_⟩, ?_⟩, ?_⟩, ?_⟩, ?_⟩, ?_⟩, ?_⟩, ?_⟩, ?_⟩, ?_⟩, ?_⟩, ?_⟩
      · refine Owes.q 175 (fun u => [(5, .pointer (some ⟨bs + 1 + 1, 0, none⟩))]) fun u w' hI hR => ?_; dsimp only [frm, List.foldl, List.replicate, List.set]; clear hI hst hR; go_wp2; exact ⟨rfl, _, rfl, rfl, rfl⟩
      · refine Owes.q 175 (fun u => [(12, u 0)]) fun u w' hI hR => ?_; dsimp only [frm, List.foldl, List.replicate, List.set]; obtain ⟨_, hI⟩ := hI; have k0 := keep_cell hI ve1; have e0 : u 0 = _ := hR 0 (by decide); rw [e0]; clear hI hst hR; go_wp2; exact ⟨rfl, _, rfl, rfl, rfl⟩
      · refine Owes.mk _ rfl rfl (fun _ _ h => by cases h) fun u m w' hm hI hR => ⟨⟨(frm 175 [(13, u 1)]).toArray, []⟩, rfl, fun d hd => by cases hd; exact frm_lt (by decide), ?_⟩
        dsimp only [frm, List.foldl, List.replicate, List.set]
        have e1 : u 1 = _ := hR 1 (by decide)
        have k0 := keep_cell hI ve1
        have k1 := keep_cell hI ve2
        have k2 := keep_cell hI b2
        have k3 := keep_cell hI crow
        rw [e1]
        clear e1
        have HI := Lib.hid hI
        clear hI hst
        go_wp2_with fail
        refine (l1In_q _ _ _ _).mono ?_
        rintro e w5 ⟨rfl, rfl⟩
        go_wp2
        exact ⟨rfl, _, rfl, (by show Value.bool _ = Value.bool _; rw [Q1.out]), HI.out, fun _ _ h => h⟩
      · refine Owes.q 175 (fun u => [(14, u 2)]) fun u w' hI hR => ?_; dsimp only [frm, List.foldl, List.replicate, List.set]; have e2 : u 2 = _ := hR 2 (by decide); rw [e2]; clear hI hst hR; go_wp2; exact ⟨rfl, _, rfl, rfl, rfl⟩
      · refine Owes.q 175 (fun u => [(15, u 3)]) fun u w' hI hR => ?_; dsimp only [frm, List.foldl, List.replicate, List.set]; have e3 : u 3 = _ := hR 3 (by decide); rw [e3]; clear hI hst hR; go_wp2; exact ⟨rfl, _, rfl, rfl, rfl⟩
      · refine Owes.qG 175 (fun u => [(5, .pointer (some ⟨bs + 1 + 1, 0, none⟩))]) fun u w' hI hR => ?_; dsimp only [frm, List.foldl, List.replicate, List.set]; clear hI hst hR; go_wp2; exact ⟨rfl, _, rfl, rfl, rfl⟩
      · refine Owes.qG 175 (fun u => [(17, u 5)]) fun u w' hI hR => ?_; dsimp only [frm, List.foldl, List.replicate, List.set]; obtain ⟨_, hI⟩ := hI; have k1 := keep_cell hI ve2; have e5 : u 5 = _ := hR 5 (by decide); rw [e5]; clear hI hst hR; go_wp2; exact ⟨rfl, _, rfl, rfl, rfl⟩
      · refine Owes.qG 175 (fun u => [(3, .pointer (some ⟨bs, 0, none⟩))]) fun u w' hI hR => ?_; dsimp only [frm, List.foldl, List.replicate, List.set]; clear hI hst hR; go_wp2; exact ⟨rfl, _, rfl, rfl, rfl⟩
      · refine Owes.qG 175 (fun u => [(19, u 7)]) fun u w' hI hR => ?_; dsimp only [frm, List.foldl, List.replicate, List.set]; obtain ⟨_, hI⟩ := hI; have k2 := keep_cell hI b2; have e7 : u 7 = _ := hR 7 (by decide); rw [e7]; clear hI hst hR; go_wp2; exact ⟨rfl, _, rfl, rfl, rfl⟩
      · refine Owes.qG 175 (fun u => [(5, .pointer (some ⟨bs + 1 + 1, 0, none⟩))]) fun u w' hI hR => ?_; dsimp only [frm, List.foldl, List.replicate, List.set]; clear hI hst hR; go_wp2; exact ⟨rfl, _, rfl, rfl, rfl⟩
      · refine Owes.qG 175 (fun u => [(21, u 9)]) fun u w' hI hR => ?_; dsimp only [frm, List.foldl, List.replicate, List.set]; obtain ⟨_, hI⟩ := hI; have k0 := keep_cell hI ve1; have e9 : u 9 = _ := hR 9 (by decide); rw [e9]; clear hI hst hR; go_wp2; exact ⟨rfl, _, rfl, rfl, rfl⟩
      · refine Owes.qG 175 (fun u => [(20, u 8), (22, u 10)]) fun u w' hI hR => ?_; dsimp only [frm, List.foldl, List.replicate, List.set]; have e8 : u 8 = _ := hR 8 (by decide); have e10 : u 10 = _ := hR 10 (by decide); rw [e8, e10]; clear hI hst hR; go_wp2; exact ⟨rfl, _, rfl, rfl, rfl⟩
      · refine Owes.qG 175 (fun u => [(23, u 11)]) fun u w' hI hR => ?_; dsimp only [frm, List.foldl, List.replicate, List.set]; obtain ⟨_, hI⟩ := hI; have k3 := keep_cell hI crow; have e11 : u 11 = _ := hR 11 (by decide); rw [e11]; clear hI hst hR; go_wp2; exact ⟨rfl, _, rfl, rfl, rfl⟩
      · refine Owes.qG 175 (fun u => [(24, u 12)]) fun u w' hI hR => ?_; dsimp only [frm, List.foldl, List.replicate, List.set]; have e12 : u 12 = _ := hR 12 (by decide); rw [e12]; clear hI hst hR; go_wp2; exact ⟨rfl, _, rfl, rfl, rfl⟩
      · refine Owes.qG 175 (fun u => [(25, u 13)]) fun u w' hI hR => ?_; dsimp only [frm, List.foldl, List.replicate, List.set]; have e13 : u 13 = _ := hR 13 (by decide); rw [e13]; clear hI hst hR; go_wp2; exact ⟨rfl, _, rfl, rfl, rfl⟩
      · refine Owes.mkG _ _ rfl rfl (fun _ _ h => by cases h) fun u m w' hm hI hR => ⟨⟨(frm 175 [(18, u 6), (26, u 14)]).toArray, []⟩, rfl, fun d hd => by cases hd; exact frm_lt (by decide), ?_⟩
        dsimp only [frm, List.foldl, List.replicate, List.set]
        have e6 : u 6 = _ := hR 6 (by decide)
        have e14 : u 14 = _ := hR 14 (by decide)
        have k0 := keep_cell hI ve1
        have k1 := keep_cell hI ve2
        have k2 := keep_cell hI b2
        have k3 := keep_cell hI crow
        rw [e6, e14]
        clear e6 e14
        have HI := Lib.hid hI
        clear hI hst
        go_wp2_with fail
        refine (l1In_q _ _ _ _).mono ?_
        rintro e w5 ⟨rfl, rfl⟩
        go_wp2
        exact ⟨rfl, _, rfl, (by show Value.bool _ = Value.bool _; rw [Q2.out]), HI.out, fun _ _ h => h⟩
      · refine Owes.qG 175 (fun u => [(27, u 15)]) fun u w' hI hR => ?_; dsimp only [frm, List.foldl, List.replicate, List.set]; have e15 : u 15 = _ := hR 15 (by decide); rw [e15]; clear hI hst hR; go_wp2; exact ⟨rfl, _, rfl, rfl, rfl⟩
      · refine Owes.q 175 (fun u => [(16, u 4), (28, u 16)]) fun u w' hI hR => ?_; dsimp only [frm, List.foldl, List.replicate, List.set]; have e4 : u 4 = _ := hR 4 (by decide); have e16 : u 16 = _ := hR 16 (by decide); rw [e4, e16]; clear hI hst hR; go_wp2; exact ⟨rfl, _, rfl, rfl, rfl⟩
     case hend =>
      intro u w' hI hR
      simp only [setAll, List.set_cons_zero, List.set_cons_succ]
      unfold wpList
      have e17 : u 17 = _ := hR 17 (by decide)
      rw [e17]
      obtain ⟨w2, hw2⟩ : ∃ z, z = w' := ⟨_, rfl⟩
      subst hw2
      have HBn := Lib.hid (HB.out.below HC.out hI)
      have crow := keep_cell hI crow
      clear hR hI hst e17 HB
      have HB := HBn
      clear HBn
      clear b2 ve1 ve2 crow
      go_upto_region 2 with fail
      have d0 := HB.out.s0
      have d1 := HB.out.s1
      have d2 := HB.out.s2
      have d3 := HB.out.s3
      have d4 := HB.out.s4
      have d5 := HB.out.s5
      obtain ⟨y0, r0⟩ := HB.out.rs.2.1 0 (by omega)
      obtain ⟨y1, r1⟩ := HB.out.rs.2.1 1 (by omega)
      obtain ⟨y2, r2⟩ := HB.out.rs.2.1 2 (by omega)
      obtain ⟨y3, r3⟩ := HB.out.rs.2.1 3 (by omega)
      obtain ⟨y4, r4⟩ := HB.out.rs.2.1 4 (by omega)
      obtain ⟨y5, r5⟩ := HB.out.rs.2.1 5 (by omega)
      have f0 := HB.out.rs.2.2 0
      have f1 := HB.out.rs.2.2 1
      have f2 := HB.out.rs.2.2 2
      have f3 := HB.out.rs.2.2 3
      have f4 := HB.out.rs.2.2 4
      have f5 := HB.out.rs.2.2 5
      go_wp2
      obtain ⟨t0, t1, t2, t3, t4, t5, t6⟩ := fin6 d0 d1 d2 d3 d4 d5 r0 r1 r2 r3 r4 r5
      have hfin := (StB.mono (m' := m + 1) HB.out (by omega)).done (ok := false) HC.out t6 (fun h => by cases h)
      exact bodyPost_ret (by simp [results, Try.results112, go_sem, t0, t1, t2, t3, t4, t5]) rfl hfin
   · obtain ⟨hj0, hj1⟩ := inB_true.1 hno
     obtain ⟨j, rfl⟩ := Int.eq_ofNat_of_zero_le hj0
     have hjr : j < rn := by omega
     have hjri : (j : Int) < (rn : Int) := by omega
     obtain ⟨rb_, ro, rfl⟩ := hrA.t.addr (by omega)
     have Q2 := Lib.hid hno
     have HRA := Lib.hid hrA
     have HPS := Lib.hid hps
     have HPL := Lib.hid hpl
     clear hno hj0 hj1 hrA hps hpl
     have hst : ∀ F, F ∈ [FEq (.pointer (some ⟨bs + 1 + 1, 1, none⟩)), FEq (.int .i64 (k : Int)), FEq (.bool true), FEq (.bool false), FEq (.bool false), FEq (.pointer (some ⟨bs + 1 + 1, 2, none⟩)), FEq (.int .i64 (j : Int)), FEq (.pointer (some ⟨bs, 2, none⟩)), FEq (.slice (some ⟨pb, po, none⟩) 3 pc), FEq (.pointer (some ⟨bs + 1 + 1, 1, none⟩)), FEq (.int .i64 (k : Int)), FEq (.pointer (some ⟨pb, po + k, none⟩)), FEq (.slice (some ⟨rb_, ro, none⟩) rn rc), FEq (.int .i64 (rn : Int)), FEq (.int .i64 ((rn : Int) - 1)), FEq (.bool true), FEq (.bool false), FEq (.bool false)] -> Stable [] F := by
      simp only [List.forall_mem_cons]
      exact ⟨stEq _ _, stEq _ _, stEq _ _, stEq _ _, stEq _ _, stEq _ _, stEq _ _, stEq _ _, stEq _ _, stEq _ _, stEq _ _, stEq _ _, stEq _ _, stEq _ _, stEq _ _, stEq _ _, stEq _ _, stEq _ _, fun _ h => by simp at h⟩
     refine wp_region_tail (by kernel_rfl) (fun i => (tbl5Step1 : List (List Nat)).getD i []) (facts [FEq (.pointer (some ⟨bs + 1 + 1, 1, none⟩)), FEq (.int .i64 (k : Int)), FEq (.bool true), FEq (.bool false), FEq (.bool false), FEq (.pointer (some ⟨bs + 1 + 1, 2, none⟩)), FEq (.int .i64 (j : Int)), FEq (.pointer (some ⟨bs, 2, none⟩)), FEq (.slice (some ⟨pb, po, none⟩) 3 pc), FEq (.pointer (some ⟨bs + 1 + 1, 1, none⟩)), FEq (.int .i64 (k : Int)), FEq (.pointer (some ⟨pb, po + k, none⟩)), FEq (.slice (some ⟨rb_, ro, none⟩) rn rc), FEq (.int .i64 (rn : Int)), FEq (.int .i64 ((rn : Int) - 1)), FEq (.bool true), FEq (.bool false), FEq (.bool false)]) (fun m w' => Below w1.heap.size w1 w') 175 18 18 [some 12, some 13, some 14, some 15, some 16, some 17, some 18, some 19, some 20, some 21, some 22, some 23, some 24, some 25, some 26, some 27, some 28, some 29] [] rfl rfl (by decide) rfl rfl (by kernel_rfl) (by kernel_rfl) [(4, false)] (by kernel_rfl) (fun g b hm v w h => by simp only [List.mem_cons, List.not_mem_nil, or_false, Prod.mk.injEq] at hm; obtain ⟨rfl, rfl⟩ := hm; exact h) ?h0 (all_lt (n := 18) ?hop) ?hend
     case h0 => exact (Below.refl _ _).drew
     case hop =>
      refine ⟨⟨⟨⟨⟨⟨⟨⟨⟨⟨⟨⟨⟨⟨⟨⟨⟨⟨trivial, ?_⟩, ?_⟩, ?_⟩, ?_⟩, ?_⟩, ?_⟩, ?_⟩, ?_⟩, ?_⟩, ?_⟩, ?_⟩, ?_⟩, ?_⟩, ?_⟩, ?_⟩, ?_⟩, ?_⟩, ?_⟩
      · refine Owes.q 175 (fun u => [(5, .pointer (some ⟨bs + 1 + 1, 0, none⟩))]) fun u w' hI hR => ?_; dsimp only [frm, List.foldl, List.replicate, List.set]; clear hI hst hR; go_wp2; exact ⟨rfl, _, rfl, rfl, rfl⟩
      · refine Owes.q 175 (fun u => [(12, u 0)]) fun u w' hI hR => ?_; dsimp only [frm, List.foldl, List.replicate, List.set]; obtain ⟨_, hI⟩ := hI; have k0 := keep_cell hI ve1; have e0 : u 0 = _ := hR 0 (by decide); rw [e0]; clear hI hst hR; go_wp2; exact ⟨rfl, _, rfl, rfl, rfl⟩
      · refine Owes.mk _ rfl rfl (fun _ _ h => by cases h) fun u m w' hm hI hR => ⟨⟨(frm 175 [(13, u 1)]).toArray, []⟩, rfl, fun d hd => by cases hd; exact frm_lt (by decide), ?_⟩
        dsimp only [frm, List.foldl, List.replicate, List.set]
        have e1 : u 1 = _ := hR 1 (by decide)
        have k0 := keep_cell hI ve1
        have k1 := keep_cell hI ve2
        have k2 := keep_cell hI b2
        have k3 := keep_cell hI crow
        rw [e1]
        clear e1
        have HI := Lib.hid hI
        clear hI hst
        go_wp2_with fail
        refine (l1In_q _ _ _ _).mono ?_
        rintro e w5 ⟨rfl, rfl⟩
        go_wp2
        exact ⟨rfl, _, rfl, (by show Value.bool _ = Value.bool _; rw [Q1.out]), HI.out, fun _ _ h => h⟩
      · refine Owes.q 175 (fun u => [(14, u 2)]) fun u w' hI hR => ?_; dsimp only [frm, List.foldl, List.replicate, List.set]; have e2 : u 2 = _ := hR 2 (by decide); rw [e2]; clear hI hst hR; go_wp2; exact ⟨rfl, _, rfl, rfl, rfl⟩
      · refine Owes.q 175 (fun u => [(15, u 3)]) fun u w' hI hR => ?_; dsimp only [frm, List.foldl, List.replicate, List.set]; have e3 : u 3 = _ := hR 3 (by decide); rw [e3]; clear hI hst hR; go_wp2; exact ⟨rfl, _, rfl, rfl, rfl⟩
      · refine Owes.qG 175 (fun u => [(5, .pointer (some ⟨bs + 1 + 1, 0, none⟩))]) fun u w' hI hR => ?_; dsimp only [frm, List.foldl, List.replicate, List.set]; clear hI hst hR; go_wp2; exact ⟨rfl, _, rfl, rfl, rfl⟩
      · refine Owes.qG 175 (fun u => [(17, u 5)]) fun u w' hI hR => ?_; dsimp only [frm, List.foldl, List.replicate, List.set]; obtain ⟨_, hI⟩ := hI; have k1 := keep_cell hI ve2; have e5 : u 5 = _ := hR 5 (by decide); rw [e5]; clear hI hst hR; go_wp2; exact ⟨rfl, _, rfl, rfl, rfl⟩
      · refine Owes.qG 175 (fun u => [(3, .pointer (some ⟨bs, 0, none⟩))]) fun u w' hI hR => ?_; dsimp only [frm, List.foldl, List.replicate, List.set]; clear hI hst hR; go_wp2; exact ⟨rfl, _, rfl, rfl, rfl⟩
      · refine Owes.qG 175 (fun u => [(19, u 7)]) fun u w' hI hR => ?_; dsimp only [frm, List.foldl, List.replicate, List.set]; obtain ⟨_, hI⟩ := hI; have k2 := keep_cell hI b2; have e7 : u 7 = _ := hR 7 (by decide); rw [e7]; clear hI hst hR; go_wp2; exact ⟨rfl, _, rfl, rfl, rfl⟩
      · refine Owes.qG 175 (fun u => [(5, .pointer (some ⟨bs + 1 + 1, 0, none⟩))]) fun u w' hI hR => ?_; dsimp only [frm, List.foldl, List.replicate, List.set]; clear hI hst hR; go_wp2; exact ⟨rfl, _, rfl, rfl, rfl⟩
      · refine Owes.qG 175 (fun u => [(21, u 9)]) fun u w' hI hR => ?_; dsimp only [frm, List.foldl, List.replicate, List.set]; obtain ⟨_, hI⟩ := hI; have k0 := keep_cell hI ve1; have e9 : u 9 = _ := hR 9 (by decide); rw [e9]; clear hI hst hR; go_wp2; exact ⟨rfl, _, rfl, rfl, rfl⟩
      · refine Owes.qG 175 (fun u => [(20, u 8), (22, u 10)]) fun u w' hI hR => ?_; dsimp only [frm, List.foldl, List.replicate, List.set]; have e8 : u 8 = _ := hR 8 (by decide); have e10 : u 10 = _ := hR 10 (by decide); rw [e8, e10]; clear hI hst hR; go_wp2; exact ⟨rfl, _, rfl, rfl, rfl⟩
      · refine Owes.qG 175 (fun u => [(23, u 11)]) fun u w' hI hR => ?_; dsimp only [frm, List.foldl, List.replicate, List.set]; obtain ⟨_, hI⟩ := hI; have k3 := keep_cell hI crow; have e11 : u 11 = _ := hR 11 (by decide); rw [e11]; clear hI hst hR; go_wp2; exact ⟨rfl, _, rfl, rfl, rfl⟩
      · refine Owes.qG 175 (fun u => [(24, u 12)]) fun u w' hI hR => ?_; dsimp only [frm, List.foldl, List.replicate, List.set]; have e12 : u 12 = _ := hR 12 (by decide); rw [e12]; clear hI hst hR; go_wp2; exact ⟨rfl, _, rfl, rfl, rfl⟩
      · refine Owes.qG 175 (fun u => [(25, u 13)]) fun u w' hI hR => ?_; dsimp only [frm, List.foldl, List.replicate, List.set]; have e13 : u 13 = _ := hR 13 (by decide); rw [e13]; clear hI hst hR; go_wp2; exact ⟨rfl, _, rfl, rfl, rfl⟩
      · refine Owes.mkG _ _ rfl rfl (fun _ _ h => by cases h) fun u m w' hm hI hR => ⟨⟨(frm 175 [(18, u 6), (26, u 14)]).toArray, []⟩, rfl, fun d hd => by cases hd; exact frm_lt (by decide), ?_⟩
        dsimp only [frm, List.foldl, List.replicate, List.set]
        have e6 : u 6 = _ := hR 6 (by decide)
        have e14 : u 14 = _ := hR 14 (by decide)
        have k0 := keep_cell hI ve1
        have k1 := keep_cell hI ve2
        have k2 := keep_cell hI b2
        have k3 := keep_cell hI crow
        rw [e6, e14]
        clear e6 e14
        have HI := Lib.hid hI
        clear hI hst
        go_wp2_with fail
        refine (l1In_q _ _ _ _).mono ?_
        rintro e w5 ⟨rfl, rfl⟩
        go_wp2
        exact ⟨rfl, _, rfl, (by show Value.bool _ = Value.bool _; rw [Q2.out]), HI.out, fun _ _ h => h⟩
      · refine Owes.qG 175 (fun u => [(27, u 15)]) fun u w' hI hR => ?_; dsimp only [frm, List.foldl, List.replicate, List.set]; have e15 : u 15 = _ := hR 15 (by decide); rw [e15]; clear hI hst hR; go_wp2; exact ⟨rfl, _, rfl, rfl, rfl⟩
      · refine Owes.q 175 (fun u => [(16, u 4), (28, u 16)]) fun u w' hI hR => ?_; dsimp only [frm, List.foldl, List.replicate, List.set]; have e4 : u 4 = _ := hR 4 (by decide); have e16 : u 16 = _ := hR 16 (by decide); rw [e4, e16]; clear hI hst hR; go_wp2; exact ⟨rfl, _, rfl, rfl, rfl⟩
     case hend =>
      intro u w' hI hR
      simp only [setAll, List.set_cons_zero, List.set_cons_succ]
      unfold wpList
      have e17 : u 17 = _ := hR 17 (by decide)
      rw [e17]
      obtain ⟨w2, hw2⟩ : ∃ z, z = w' := ⟨_, rfl⟩
      subst hw2
      have HBn := Lib.hid (HB.out.below HC.out hI)
      have crow := keep_cell hI crow
      have HPSn := Lib.hid (HPS.out.below (slR_fits reqR_fits) hI)
      clear hR hI hst e17 HB HPS
      have HB := HBn
      clear HBn
      have HPS := HPSn
      clear HPSn
      have HRW := Lib.hid crow
      clear crow b2 ve1 ve2
      have ve0 := HB.out.e0
      by_cases hk1 : kd = 1
      · subst hk1
        obtain ⟨ba, oa, rfl, hba, mba, cQ, hqn⟩ := HB.out.tv.ask.numAt (show k < qs.length by rw [HB.out.tv.la]; exact hk3)
        obtain rfl : an = 3 := by rw [<- hqn, HB.out.tv.la]
        obtain ⟨zq, hzq⟩ : ∃ z, z = qs[k]'(by rw [HB.out.tv.la]; exact hk3) := ⟨_, rfl⟩
        rw [<- hzq] at cQ
        have fQ := HB.out.tv.fr ba (by simp [mba]) (oa + k)
        have s2 := HB.out.s2
        have ve1 := HB.out.e1
        have ve2 := HB.out.e2
        clear hzq hqn mba hba
        go_upto_region 5 with fail
        have hst : ∀ F, F ∈ [FEq (.pointer (some ⟨bs + 1 + 1, 2, none⟩)), FEq (.int .i64 (j : Int)), FEq (.pointer (some ⟨bs + 1, 2, none⟩)), FEq (.slice (some ⟨ba, oa, none⟩) 3 ac), FEq (.pointer (some ⟨bs + 1 + 1, 1, none⟩)), FEq (.int .i64 (k : Int)), FEq (.pointer (some ⟨ba, oa + k, none⟩)), FEq (.int .i64 zq), FEq (.bool ((j : Int) != zq))] -> Stable [] F := by
         simp only [List.forall_mem_cons]
         exact ⟨stEq _ _, stEq _ _, stEq _ _, stEq _ _, stEq _ _, stEq _ _, stEq _ _, stEq _ _, stEq _ _, fun _ h => by simp at h⟩
        refine wp_region_tail (by kernel_rfl) (fun i => (tbl5Step5 : List (List Nat)).getD i []) (facts [FEq (.pointer (some ⟨bs + 1 + 1, 2, none⟩)), FEq (.int .i64 (j : Int)), FEq (.pointer (some ⟨bs + 1, 2, none⟩)), FEq (.slice (some ⟨ba, oa, none⟩) 3 ac), FEq (.pointer (some ⟨bs + 1 + 1, 1, none⟩)), FEq (.int .i64 (k : Int)), FEq (.pointer (some ⟨ba, oa + k, none⟩)), FEq (.int .i64 zq), FEq (.bool ((j : Int) != zq))]) (fun m w' => Below w2.heap.size w2 w') 175 9 9 [some 35, some 36, some 37, some 38, some 39, some 40, some 41, some 42, some 43] [] rfl rfl (by decide) rfl rfl (by kernel_rfl) (by kernel_rfl) [] (by kernel_rfl) (fun g b hm v w h => by simp at hm) ?h0 (all_lt (n := 9) ?hop) ?hend
        case h0 => exact (Below.refl _ _).drew
        case hop =>
         refine ⟨⟨⟨⟨⟨⟨⟨⟨⟨trivial, ?_⟩, ?_⟩, ?_⟩, ?_⟩, ?_⟩, ?_⟩, ?_⟩, ?_⟩, ?_⟩
         · refine Owes.q 175 (fun u => [(5, .pointer (some ⟨bs + 1 + 1, 0, none⟩))]) fun u w' hI hR => ?_; dsimp only [frm, List.foldl, List.replicate, List.set]; clear hI hst hR; go_wp2; exact ⟨rfl, _, rfl, rfl, rfl⟩
         · refine Owes.q 175 (fun u => [(35, u 0)]) fun u w' hI hR => ?_; dsimp only [frm, List.foldl, List.replicate, List.set]; obtain ⟨_, hI⟩ := hI; have k1 := keep_cell hI ve2; have e0 : u 0 = _ := hR 0 (by decide); rw [e0]; clear hI hst hR; go_wp2; exact ⟨rfl, _, rfl, rfl, rfl⟩
         · refine Owes.q 175 (fun u => [(4, .pointer (some ⟨bs + 1, 0, none⟩))]) fun u w' hI hR => ?_; dsimp only [frm, List.foldl, List.replicate, List.set]; clear hI hst hR; go_wp2; exact ⟨rfl, _, rfl, rfl, rfl⟩
         · refine Owes.q 175 (fun u => [(37, u 2)]) fun u w' hI hR => ?_; dsimp only [frm, List.foldl, List.replicate, List.set]; obtain ⟨_, hI⟩ := hI; have k2 := keep_cell hI s2; have e2 : u 2 = _ := hR 2 (by decide); rw [e2]; clear hI hst hR; go_wp2; exact ⟨rfl, _, rfl, rfl, rfl⟩
         · refine Owes.q 175 (fun u => [(5, .pointer (some ⟨bs + 1 + 1, 0, none⟩))]) fun u w' hI hR => ?_; dsimp only [frm, List.foldl, List.replicate, List.set]; clear hI hst hR; go_wp2; exact ⟨rfl, _, rfl, rfl, rfl⟩
         · refine Owes.q 175 (fun u => [(39, u 4)]) fun u w' hI hR => ?_; dsimp only [frm, List.foldl, List.replicate, List.set]; obtain ⟨_, hI⟩ := hI; have k0 := keep_cell hI ve1; have e4 : u 4 = _ := hR 4 (by decide); rw [e4]; clear hI hst hR; go_wp2; exact ⟨rfl, _, rfl, rfl, rfl⟩
         · refine Owes.q 175 (fun u => [(38, u 3), (40, u 5)]) fun u w' hI hR => ?_; dsimp only [frm, List.foldl, List.replicate, List.set]; have e3 : u 3 = _ := hR 3 (by decide); have e5 : u 5 = _ := hR 5 (by decide); rw [e3, e5]; clear hI hst hR; go_wp2; exact ⟨rfl, _, rfl, rfl, rfl⟩
         · refine Owes.q 175 (fun u => [(41, u 6)]) fun u w' hI hR => ?_; dsimp only [frm, List.foldl, List.replicate, List.set]; obtain ⟨_, hI⟩ := hI; have k3 := keep_cell hI cQ; have e6 : u 6 = _ := hR 6 (by decide); rw [e6]; clear hI hst hR; go_wp2; exact ⟨rfl, _, rfl, rfl, rfl⟩
         · refine Owes.q 175 (fun u => [(36, u 1), (42, u 7)]) fun u w' hI hR => ?_; dsimp only [frm, List.foldl, List.replicate, List.set]; have e1 : u 1 = _ := hR 1 (by decide); have e7 : u 7 = _ := hR 7 (by decide); rw [e1, e7]; clear hI hst hR; go_wp2; exact ⟨rfl, _, rfl, rfl, rfl⟩
        case hend =>
         intro u w' hI hR
         simp only [setAll, List.set_cons_zero, List.set_cons_succ]
         unfold wpList
         have e8 : u 8 = _ := hR 8 (by decide)
         rw [e8]
         obtain ⟨w3, hw3⟩ : ∃ z, z = w' := ⟨_, rfl⟩
         subst hw3
         have HB3 := Lib.hid (HB.out.below HC.out hI)
         have fQ := keep_free hI (block_of_cell cQ) fQ
         have cQ := keep_cell hI cQ
         have s2 := HB3.out.s2
         have ve1 := HB3.out.e1
         have ve2 := HB3.out.e2
         clear hR hI hst e8 HB ve0
         cases hne : ((j : Int) != zq)
         · go_upto_region 8 with fail
           obtain ⟨w4, hw4⟩ : ∃ z, z = w3.setCell ⟨ba, oa + k, none⟩ (.int .i64 ((j : Int) + 1)) := ⟨_, rfl⟩
           rw [<- hw4]
           obtain ⟨t1, t2, t3⟩ := IntS.set HB3.out.tv.ask rfl hk3 ((j : Int) + 1)
           rw [<- hw4] at t1 t2
           have n2 : ∀ c, c ∈ fw -> c ∉ fa := HC.out.c.wa
           have n3 : ∀ c, c ∈ fh -> c ∉ fa := HC.out.c.ha
           have HB4 := Lib.hid (HB3.out.turn HC.out t2 (fun c hc => by simp [hc]) HB3.out.tv.lm HB3.out.tv.lh (by simpa using HB3.out.tv.la) (HB3.out.tv.mem.chg intR_fits t2 n2) (HB3.out.tv.hol.chg intR_fits t2 n3) t1 (by rw [hw4]; exact HB3.out.tv.fr.setCell _ _))
           clear hw4 t1 t2 t3 n2 n3 HB3 s2 ve1 ve2 cQ fQ
           have s3 := HB4.out.s3
           have ve1 := HB4.out.e1
           have ve2 := HB4.out.e2
           go_wp2_with fail
           refine (l5Put_b (bx bs ++ L) _ xa xn xc ⟨k, j, ⟨0, 0, []⟩⟩ none 0 0 (by have := HB4.out.tv.nx; omega) _ HB4.out.th HB4.out.tv.wt (newJob k j hk3 (by omega))).mono ?_
           rintro e w5 ⟨T5, a5, c5, rfl, t5, st5, hA5⟩
           have HB5 := Lib.hid (HB4.out.step HC.out t5 st5)
           have HA5 := Lib.hid hA5
           clear t5 st5 hA5 HB4 s3 ve1 ve2
           have s3 := HB5.out.s3
           have fs3 := HB5.out.fs 3
           go_upto_region 9 with fail
           obtain ⟨w6, hw6⟩ : ∃ z, z = w5.setCell ⟨bs + 1, 3, none⟩ (.slice a5 (xn + 1) c5) := ⟨_, rfl⟩
           rw [<- hw6]
           have HB6 := Lib.hid (StB.box (w' := w6) HC.out HB5.out (by rw [hw6]; exact store_chg _) (by rw [hw6]; exact setOther _ (by decide) HB5.out.s0) (by rw [hw6]; exact setOther _ (by decide) HB5.out.s1) (by rw [hw6]; exact setOther _ (by decide) HB5.out.s2) (by rw [hw6]; exact setSame _ HB5.out.s3) (by rw [hw6]; exact setOther _ (by decide) HB5.out.s4) (by rw [hw6]; exact setOther _ (by decide) HB5.out.s5) (fun o => by rw [hw6]; exact (World.frozen?_setCell ..).trans (HB5.out.fs o)) HA5.out HB5.out.tv.dn HB5.out.tv.td (show _ <= m + 1 by have := HB5.out.tv.nx; omega) (show _ <= m + 1 by have := HB5.out.tv.ny; omega) (show _ <= m + 1 by have := HB5.out.tv.nz; omega))
           clear hw6 s3 fs3 HB5 HA5
           have d0 := HB6.out.s0
           have d1 := HB6.out.s1
           have d2 := HB6.out.s2
           have d3 := HB6.out.s3
           have d4 := HB6.out.s4
           have d5 := HB6.out.s5
           obtain ⟨y0, r0⟩ := HB6.out.rs.2.1 0 (by omega)
           obtain ⟨y1, r1⟩ := HB6.out.rs.2.1 1 (by omega)
           obtain ⟨y2, r2⟩ := HB6.out.rs.2.1 2 (by omega)
           obtain ⟨y3, r3⟩ := HB6.out.rs.2.1 3 (by omega)
           obtain ⟨y4, r4⟩ := HB6.out.rs.2.1 4 (by omega)
           obtain ⟨y5, r5⟩ := HB6.out.rs.2.1 5 (by omega)
           have f0 := HB6.out.rs.2.2 0
           have f1 := HB6.out.rs.2.2 1
           have f2 := HB6.out.rs.2.2 2
           have f3 := HB6.out.rs.2.2 3
           have f4 := HB6.out.rs.2.2 4
           have f5 := HB6.out.rs.2.2 5
           go_wp2
           obtain ⟨t0, t1, t2, t3, t4, t5, t6⟩ := fin6 d0 d1 d2 d3 d4 d5 r0 r1 r2 r3 r4 r5
           have hfin := (StB.mono (m' := m + 1) HB6.out (by omega)).done (ok := true) HC.out t6 (fun _ => ⟨by omega, by omega⟩)
           exact bodyPost_ret (by simp [results, Try.results112, go_sem, t0, t1, t2, t3, t4, t5]) rfl hfin
         · go_upto_region 6 with fail
           have d0 := HB3.out.s0
           have d1 := HB3.out.s1
           have d2 := HB3.out.s2
           have d3 := HB3.out.s3
           have d4 := HB3.out.s4
           have d5 := HB3.out.s5
           obtain ⟨y0, r0⟩ := HB3.out.rs.2.1 0 (by omega)
           obtain ⟨y1, r1⟩ := HB3.out.rs.2.1 1 (by omega)
           obtain ⟨y2, r2⟩ := HB3.out.rs.2.1 2 (by omega)
           obtain ⟨y3, r3⟩ := HB3.out.rs.2.1 3 (by omega)
           obtain ⟨y4, r4⟩ := HB3.out.rs.2.1 4 (by omega)
           obtain ⟨y5, r5⟩ := HB3.out.rs.2.1 5 (by omega)
           have f0 := HB3.out.rs.2.2 0
           have f1 := HB3.out.rs.2.2 1
           have f2 := HB3.out.rs.2.2 2
           have f3 := HB3.out.rs.2.2 3
           have f4 := HB3.out.rs.2.2 4
           have f5 := HB3.out.rs.2.2 5
           go_wp2
           obtain ⟨t0, t1, t2, t3, t4, t5, t6⟩ := fin6 d0 d1 d2 d3 d4 d5 r0 r1 r2 r3 r4 r5
           have hfin := (StB.mono (m' := m + 1) HB3.out (by omega)).done (ok := false) HC.out t6 (fun h => by cases h)
           exact bodyPost_ret (by simp [results, Try.results112, go_sem, t0, t1, t2, t3, t4, t5]) rfl hfin
      · by_cases hk2 : kd = 2
        · subst hk2
          have s3 := HB.out.s3
          have ve1 := HB.out.e1
          have ve2 := HB.out.e2
          obtain ⟨lx, fx, hlx, hfx⟩ := HB.out.tv.wt.t.jobs HB.out.th HB.out.tv.wt.1 HB.out.tv.wt.2.1
          have hll : lx.length = xn := by
           have h' := hlx
           obtain ⟨_, _, _, e, h2, _⟩ := h'
           cases e; exact h2
          have HLX := Lib.hid hlx
          have HFX := Lib.hid hfx
          have HLL := Lib.hid hll
          clear hlx hfx hll
          go_wp2_with fail
          refine (l5At_b _ lx fx _ _ _ HLX.out).mono ?_
          rintro e w3 ⟨⟨z, hz0, hz1, rfl⟩, rfl⟩
          have hz2 : z < xn := by have := HLL.out; omega
          clear hz1
          by_cases hzn : z < 0
          · clear s3 ve1 ve2
            go_upto_region 13 with fail
            have d0 := HB.out.s0
            have d1 := HB.out.s1
            have d2 := HB.out.s2
            have d3 := HB.out.s3
            have d4 := HB.out.s4
            have d5 := HB.out.s5
            obtain ⟨y0, r0⟩ := HB.out.rs.2.1 0 (by omega)
            obtain ⟨y1, r1⟩ := HB.out.rs.2.1 1 (by omega)
            obtain ⟨y2, r2⟩ := HB.out.rs.2.1 2 (by omega)
            obtain ⟨y3, r3⟩ := HB.out.rs.2.1 3 (by omega)
            obtain ⟨y4, r4⟩ := HB.out.rs.2.1 4 (by omega)
            obtain ⟨y5, r5⟩ := HB.out.rs.2.1 5 (by omega)
            have f0 := HB.out.rs.2.2 0
            have f1 := HB.out.rs.2.2 1
            have f2 := HB.out.rs.2.2 2
            have f3 := HB.out.rs.2.2 3
            have f4 := HB.out.rs.2.2 4
            have f5 := HB.out.rs.2.2 5
            go_wp2
            obtain ⟨t0, t1, t2, t3, t4, t5, t6⟩ := fin6 d0 d1 d2 d3 d4 d5 r0 r1 r2 r3 r4 r5
            have hfin := (StB.mono (m' := m + 1) HB.out (by omega)).done (ok := false) HC.out t6 (fun h => by cases h)
            exact bodyPost_ret (by simp [results, Try.results112, go_sem, t0, t1, t2, t3, t4, t5]) rfl hfin
          · obtain ⟨zi, rfl⟩ := Int.eq_ofNat_of_zero_le (show 0 <= z by omega)
            have b0 := HB.out.b0
            have b1 := HB.out.b1
            have b2 := HB.out.b2
            go_wp2_with fail
            refine (l5First_b ps _ _ _ fps lx _ fx k j hkl (by rw [HPL.out]; exact hjr) (fun q hq => (HFX.out q hq).2.2.1) ⟨_, _, _, rfl⟩ ⟨_, _, _, rfl⟩ _ HPS.out HLX.out).mono ?_
            rintro e w4 ⟨⟨bf, rfl⟩, bb⟩
            have HB4 := Lib.hid (HB.out.below HC.out bb)
            have HRW4 := Lib.hid (keep_cell bb HRW.out)
            clear bb HB HLX HPS HRW s3 ve1 ve2 b0 b1 b2 ve0
            cases bf
            · go_upto_region 13 with fail
              have d0 := HB4.out.s0
              have d1 := HB4.out.s1
              have d2 := HB4.out.s2
              have d3 := HB4.out.s3
              have d4 := HB4.out.s4
              have d5 := HB4.out.s5
              obtain ⟨y0, r0⟩ := HB4.out.rs.2.1 0 (by omega)
              obtain ⟨y1, r1⟩ := HB4.out.rs.2.1 1 (by omega)
              obtain ⟨y2, r2⟩ := HB4.out.rs.2.1 2 (by omega)
              obtain ⟨y3, r3⟩ := HB4.out.rs.2.1 3 (by omega)
              obtain ⟨y4, r4⟩ := HB4.out.rs.2.1 4 (by omega)
              obtain ⟨y5, r5⟩ := HB4.out.rs.2.1 5 (by omega)
              have f0 := HB4.out.rs.2.2 0
              have f1 := HB4.out.rs.2.2 1
              have f2 := HB4.out.rs.2.2 2
              have f3 := HB4.out.rs.2.2 3
              have f4 := HB4.out.rs.2.2 4
              have f5 := HB4.out.rs.2.2 5
              go_wp2
              obtain ⟨t0, t1, t2, t3, t4, t5, t6⟩ := fin6 d0 d1 d2 d3 d4 d5 r0 r1 r2 r3 r4 r5
              have hfin := (StB.mono (m' := m + 1) HB4.out (by omega)).done (ok := false) HC.out t6 (fun h => by cases h)
              exact bodyPost_ret (by simp [results, Try.results112, go_sem, t0, t1, t2, t3, t4, t5]) rfl hfin
            · obtain ⟨qb, qo, x, da, dn, dc, ea, en, ec, fd, fl, hqa, hq, hd, he, hfit, hfz⟩ := HRA.out.t.req2 hjr HB4.out.th
              cases hqa
              have q0 := hq 0 (by simp)
              have q1 := hq 1 (by simp)
              have q2 := hq 2 (by simp)
              have q3 := hq 3 (by simp)
              have q4 := hq 4 (by simp)
              have q5 := hq 5 (by simp)
              have q6 := hq 6 (by simp)
              simp only [Nat.add_zero, List.getElem_cons_zero, List.getElem_cons_succ] at q0 q1 q2 q3 q4 q5 q6
              have HD := Lib.hid hd
              have HE := Lib.hid he
              have HFT := Lib.hid hfit
              have HFZ := Lib.hid hfz
              have crow := HRW4.out
              have b0 := HB4.out.b0
              have b2 := HB4.out.b2
              have s0 := HB4.out.s0
              have s1 := HB4.out.s1
              have ve1 := HB4.out.e1
              have ve2 := HB4.out.e2
              clear hq hd he hfit hfz
              go_upto_region 14 with fail
              have hst : ∀ F, F ∈ [FEq (.pointer (some ⟨bs, 0, none⟩)), FEq (.slice am nm cm), FEq (.pointer (some ⟨bs + 1, 0, none⟩)), FEq (.agg #[.slice aw nw cw, .slice ah nh ch]), FEq (.pointer (some ⟨bs + 1 + 1, 1, none⟩)), FEq (.int .i64 (k : Int)), FEq (.pointer (some ⟨bs, 2, none⟩)), FEq (.slice (some ⟨pb, po, none⟩) 3 pc), FEq (.pointer (some ⟨bs + 1 + 1, 1, none⟩)), FEq (.int .i64 (k : Int)), FEq (.pointer (some ⟨pb, po + k, none⟩)), FEq (.slice (some ⟨rb_, ro, none⟩) rn rc), FEq (.pointer (some ⟨bs + 1 + 1, 2, none⟩)), FEq (.int .i64 (j : Int)), FEq (.pointer (some ⟨rb_, ro + j * 7, none⟩)), FEq (.agg #[.int .i64 x.id, .int .i64 x.kind, .int .i64 x.addr, .int .i64 x.many, .bool x.wrap, .slice da dn dc, .slice ea en ec]), FAny, FAny, FEq (.agg #[.slice aw nw cw, .slice ah nh ch]), FAny, FAny, FAny, FAny] -> Stable [] F := by
               simp only [List.forall_mem_cons]
               exact ⟨stEq _ _, stEq _ _, stEq _ _, stEq _ _, stEq _ _, stEq _ _, stEq _ _, stEq _ _, stEq _ _, stEq _ _, stEq _ _, stEq _ _, stEq _ _, stEq _ _, stEq _ _, stEq _ _, stAny _, stAny _, stEq _ _, stAny _, stAny _, stAny _, stAny _, fun _ h => by simp at h⟩
              have hk : ∀ (wa wb : World) (j_ : Nat) (y_ : Value), facts [FEq (.pointer (some ⟨bs, 0, none⟩)), FEq (.slice am nm cm), FEq (.pointer (some ⟨bs + 1, 0, none⟩)), FEq (.agg #[.slice aw nw cw, .slice ah nh ch]), FEq (.pointer (some ⟨bs + 1 + 1, 1, none⟩)), FEq (.int .i64 (k : Int)), FEq (.pointer (some ⟨bs, 2, none⟩)), FEq (.slice (some ⟨pb, po, none⟩) 3 pc), FEq (.pointer (some ⟨bs + 1 + 1, 1, none⟩)), FEq (.int .i64 (k : Int)), FEq (.pointer (some ⟨pb, po + k, none⟩)), FEq (.slice (some ⟨rb_, ro, none⟩) rn rc), FEq (.pointer (some ⟨bs + 1 + 1, 2, none⟩)), FEq (.int .i64 (j : Int)), FEq (.pointer (some ⟨rb_, ro + j * 7, none⟩)), FEq (.agg #[.int .i64 x.id, .int .i64 x.kind, .int .i64 x.addr, .int .i64 x.many, .bool x.wrap, .slice da dn dc, .slice ea en ec]), FAny, FAny, FEq (.agg #[.slice aw nw cw, .slice ah nh ch]), FAny, FAny, FAny, FAny] j_ y_ wa -> facts [FEq (.pointer (some ⟨bs, 0, none⟩)), FEq (.slice am nm cm), FEq (.pointer (some ⟨bs + 1, 0, none⟩)), FEq (.agg #[.slice aw nw cw, .slice ah nh ch]), FEq (.pointer (some ⟨bs + 1 + 1, 1, none⟩)), FEq (.int .i64 (k : Int)), FEq (.pointer (some ⟨bs, 2, none⟩)), FEq (.slice (some ⟨pb, po, none⟩) 3 pc), FEq (.pointer (some ⟨bs + 1 + 1, 1, none⟩)), FEq (.int .i64 (k : Int)), FEq (.pointer (some ⟨pb, po + k, none⟩)), FEq (.slice (some ⟨rb_, ro, none⟩) rn rc), FEq (.pointer (some ⟨bs + 1 + 1, 2, none⟩)), FEq (.int .i64 (j : Int)), FEq (.pointer (some ⟨rb_, ro + j * 7, none⟩)), FEq (.agg #[.int .i64 x.id, .int .i64 x.kind, .int .i64 x.addr, .int .i64 x.many, .bool x.wrap, .slice da dn dc, .slice ea en ec]), FAny, FAny, FEq (.agg #[.slice aw nw cw, .slice ah nh ch]), FAny, FAny, FAny, FAny] j_ y_ wb := fun wa wb j_ y_ h => by
               rcases j_ with _ | _ | _ | _ | _ | _ | _ | _ | _ | _ | _ | _ | _ | _ | _ | _ | _ | _ | _ | _ | _ | _ | _ | j_ <;> exact h
              refine wp_region_tail7 (by kernel_rfl) (fun i => ([[], [0], [], [2], [], [4], [], [6], [], [8], [6, 7, 8, 9], [6, 7, 8, 9, 10], [], [12], [6, 7, 8, 9, 10, 11, 12, 13], [6, 7, 8, 9, 10, 11, 12, 13, 14], [0, 1, 2, 3, 4, 5, 6, 7, 8, 9, 10, 11, 12, 13, 14, 15], [0, 1, 2, 3, 4, 5, 6, 7, 8, 9, 10, 11, 12, 13, 14, 15, 16], [0, 1, 2, 3, 4, 5, 6, 7, 8, 9, 10, 11, 12, 13, 14, 15, 16, 17], [0, 1, 2, 3, 4, 5, 6, 7, 8, 9, 10, 11, 12, 13, 14, 15, 16, 17], [], [], [0, 1, 2, 3, 4, 5, 6, 7, 8, 9, 10, 11, 12, 13, 14, 15, 16, 17, 18, 20, 21], [0, 1, 2, 3, 4, 5, 6, 7, 8, 9, 10, 11, 12, 13, 14, 15, 16, 17, 18, 19, 20, 21, 22]] : List (List Nat)).getD i []) (facts [FEq (.pointer (some ⟨bs, 0, none⟩)), FEq (.slice am nm cm), FEq (.pointer (some ⟨bs + 1, 0, none⟩)), FEq (.agg #[.slice aw nw cw, .slice ah nh ch]), FEq (.pointer (some ⟨bs + 1 + 1, 1, none⟩)), FEq (.int .i64 (k : Int)), FEq (.pointer (some ⟨bs, 2, none⟩)), FEq (.slice (some ⟨pb, po, none⟩) 3 pc), FEq (.pointer (some ⟨bs + 1 + 1, 1, none⟩)), FEq (.int .i64 (k : Int)), FEq (.pointer (some ⟨pb, po + k, none⟩)), FEq (.slice (some ⟨rb_, ro, none⟩) rn rc), FEq (.pointer (some ⟨bs + 1 + 1, 2, none⟩)), FEq (.int .i64 (j : Int)), FEq (.pointer (some ⟨rb_, ro + j * 7, none⟩)), FEq (.agg #[.int .i64 x.id, .int .i64 x.kind, .int .i64 x.addr, .int .i64 x.many, .bool x.wrap, .slice da dn dc, .slice ea en ec]), FAny, FAny, FEq (.agg #[.slice aw nw cw, .slice ah nh ch]), FAny, FAny, FAny, FAny]) (DoI (fun Lx ms_ hs_ w_ => StB gFit Lx bs T0 w lm (.slice am nm cm) (.slice al nl cl) fm (some ⟨pb, po, none⟩) pc (.slice aw nw cw) (.slice ah nh ch) (.slice aa an ac) fw fh fa m 2 (k : Int) (j : Int) T0 w_ ms_ hs_ qs xa xn xc ya yn yc za zn zc) L (bx bs) T0 (.slice aw nw cw) (.slice ah nh ch) ms hs x (.slice da dn dc) (.slice ea en ec) fd fl w4) 175 24 23 [some 87, some 88, some 89, some 90, some 91, some 92, some 93, some 94, some 95, some 96, some 97, some 98, some 99, some 100, some 101, some 102, some 103, some 86, some 104, some 105, some 9, some 10, none] _ rfl rfl (by decide) rfl rfl (by kernel_rfl) (by kernel_rfl) [] (by kernel_rfl) (fun g b hm v w h => by simp at hm) ?h0 (all_lt (n := 23) ?hop) ?hend
              case h0 => exact fun ls u hl => DoI.start HB4.out (fun h => h.below HC.out (Below.refl _ _).drew) HFZ.out HD.out HE.out hl
              case hop =>
               refine ⟨⟨⟨⟨⟨⟨⟨⟨⟨⟨⟨⟨⟨⟨⟨⟨⟨⟨⟨⟨⟨⟨⟨trivial, ?_⟩, ?_⟩, ?_⟩, ?_⟩, ?_⟩, ?_⟩, ?_⟩, ?_⟩, ?_⟩, ?_⟩, ?_⟩, ?_⟩, ?_⟩, ?_⟩, ?_⟩, ?_⟩, ?_⟩, ?_⟩, ?_⟩, ?_⟩, ?_⟩, ?_⟩, ?_⟩
               · refine Owes7.mk _ rfl rfl (fun _ _ h => by cases h) fun u n_ w' hm ls hI hli hld hlT hR => ⟨⟨(frm 175 [(3, .pointer (some ⟨bs, 0, none⟩))]).toArray, []⟩, rfl, fun d hd => by cases hd; exact frm_lt (by decide), ?_⟩
                 dsimp only [frm, List.foldl, List.replicate, List.set]
                 have HI := Lib.hid hI
                 clear hI hR hld hlT hst
                 go_wp2
                 exact ⟨rfl, _, rfl, rfl, HI.out.next (by decide) (by decide) (by decide) (by decide) (by decide) (by decide), fun j_ y_ _ _ hx => hk _ _ j_ y_ hx⟩
               · refine Owes7.mk _ rfl rfl (fun _ _ h => by cases h) fun u n_ w' hm ls hI hli hld hlT hR => ⟨⟨(frm 175 [(87, u 0)]).toArray, []⟩, rfl, fun d hd => by cases hd; exact frm_lt (by decide), ?_⟩
                 dsimp only [frm, List.foldl, List.replicate, List.set]
                 have l16 : ls 16 = false := by
                  cases e : ls 16 with
                  | false => rfl
                  | true => have := hld 16 e 1 (by decide); rw [hli] at this; cases this
                 obtain ⟨-, -, -, -, -, -, hbel⟩ := hI.pre l16
                 have z_b0 := keep_cell hbel b0
                 clear hbel
                 have ev0 : u 0 = _ := hR 0 (by decide)
                 rw [ev0]
                 have HI := Lib.hid hI
                 clear hI hR hld hlT hst ev0
                 go_wp2
                 exact ⟨rfl, _, rfl, rfl, HI.out.next (by decide) (by decide) (by decide) (by decide) (by decide) (by decide), fun j_ y_ _ _ hx => hk _ _ j_ y_ hx⟩
               · refine Owes7.mk _ rfl rfl (fun _ _ h => by cases h) fun u n_ w' hm ls hI hli hld hlT hR => ⟨⟨(frm 175 [(4, .pointer (some ⟨bs + 1, 0, none⟩))]).toArray, []⟩, rfl, fun d hd => by cases hd; exact frm_lt (by decide), ?_⟩
                 dsimp only [frm, List.foldl, List.replicate, List.set]
                 have HI := Lib.hid hI
                 clear hI hR hld hlT hst
                 go_wp2
                 exact ⟨rfl, _, rfl, rfl, HI.out.next (by decide) (by decide) (by decide) (by decide) (by decide) (by decide), fun j_ y_ _ _ hx => hk _ _ j_ y_ hx⟩
               · refine Owes7.mk _ rfl rfl (fun _ _ h => by cases h) fun u n_ w' hm ls hI hli hld hlT hR => ⟨⟨(frm 175 [(89, u 2)]).toArray, []⟩, rfl, fun d hd => by cases hd; exact frm_lt (by decide), ?_⟩
                 dsimp only [frm, List.foldl, List.replicate, List.set]
                 have l16 : ls 16 = false := by
                  cases e : ls 16 with
                  | false => rfl
                  | true => have := hld 16 e 3 (by decide); rw [hli] at this; cases this
                 obtain ⟨-, -, -, -, -, -, hbel⟩ := hI.pre l16
                 have z_s0 := keep_cell hbel s0
                 have z_s1 := keep_cell hbel s1
                 clear hbel
                 have ev2 : u 2 = _ := hR 2 (by decide)
                 rw [ev2]
                 have HI := Lib.hid hI
                 clear hI hR hld hlT hst ev2
                 go_wp2
                 exact ⟨rfl, _, rfl, rfl, HI.out.next (by decide) (by decide) (by decide) (by decide) (by decide) (by decide), fun j_ y_ _ _ hx => hk _ _ j_ y_ hx⟩
               · refine Owes7.mk _ rfl rfl (fun _ _ h => by cases h) fun u n_ w' hm ls hI hli hld hlT hR => ⟨⟨(frm 175 [(5, .pointer (some ⟨bs + 1 + 1, 0, none⟩))]).toArray, []⟩, rfl, fun d hd => by cases hd; exact frm_lt (by decide), ?_⟩
                 dsimp only [frm, List.foldl, List.replicate, List.set]
                 have HI := Lib.hid hI
                 clear hI hR hld hlT hst
                 go_wp2
                 exact ⟨rfl, _, rfl, rfl, HI.out.next (by decide) (by decide) (by decide) (by decide) (by decide) (by decide), fun j_ y_ _ _ hx => hk _ _ j_ y_ hx⟩
               · refine Owes7.mk _ rfl rfl (fun _ _ h => by cases h) fun u n_ w' hm ls hI hli hld hlT hR => ⟨⟨(frm 175 [(91, u 4)]).toArray, []⟩, rfl, fun d hd => by cases hd; exact frm_lt (by decide), ?_⟩
                 dsimp only [frm, List.foldl, List.replicate, List.set]
                 have l16 : ls 16 = false := by
                  cases e : ls 16 with
                  | false => rfl
                  | true => have := hld 16 e 5 (by decide); rw [hli] at this; cases this
                 obtain ⟨-, -, -, -, -, -, hbel⟩ := hI.pre l16
                 have z_ve1 := keep_cell hbel ve1
                 clear hbel
                 have ev4 : u 4 = _ := hR 4 (by decide)
                 rw [ev4]
                 have HI := Lib.hid hI
                 clear hI hR hld hlT hst ev4
                 go_wp2
                 exact ⟨rfl, _, rfl, rfl, HI.out.next (by decide) (by decide) (by decide) (by decide) (by decide) (by decide), fun j_ y_ _ _ hx => hk _ _ j_ y_ hx⟩
               · refine Owes7.mk _ rfl rfl (fun _ _ h => by cases h) fun u n_ w' hm ls hI hli hld hlT hR => ⟨⟨(frm 175 [(3, .pointer (some ⟨bs, 0, none⟩))]).toArray, []⟩, rfl, fun d hd => by cases hd; exact frm_lt (by decide), ?_⟩
                 dsimp only [frm, List.foldl, List.replicate, List.set]
                 have HI := Lib.hid hI
                 clear hI hR hld hlT hst
                 go_wp2
                 exact ⟨rfl, _, rfl, rfl, HI.out.next (by decide) (by decide) (by decide) (by decide) (by decide) (by decide), fun j_ y_ _ _ hx => hk _ _ j_ y_ hx⟩
               · refine Owes7.mk _ rfl rfl (fun _ _ h => by cases h) fun u n_ w' hm ls hI hli hld hlT hR => ⟨⟨(frm 175 [(93, u 6)]).toArray, []⟩, rfl, fun d hd => by cases hd; exact frm_lt (by decide), ?_⟩
                 dsimp only [frm, List.foldl, List.replicate, List.set]
                 have l16 : ls 16 = false := by
                  cases e : ls 16 with
                  | false => rfl
                  | true => have := hld 16 e 7 (by decide); rw [hli] at this; cases this
                 obtain ⟨-, -, -, -, -, -, hbel⟩ := hI.pre l16
                 have z_b2 := keep_cell hbel b2
                 clear hbel
                 have ev6 : u 6 = _ := hR 6 (by decide)
                 rw [ev6]
                 have HI := Lib.hid hI
                 clear hI hR hld hlT hst ev6
                 go_wp2
                 exact ⟨rfl, _, rfl, rfl, HI.out.next (by decide) (by decide) (by decide) (by decide) (by decide) (by decide), fun j_ y_ _ _ hx => hk _ _ j_ y_ hx⟩
               · refine Owes7.mk _ rfl rfl (fun _ _ h => by cases h) fun u n_ w' hm ls hI hli hld hlT hR => ⟨⟨(frm 175 [(5, .pointer (some ⟨bs + 1 + 1, 0, none⟩))]).toArray, []⟩, rfl, fun d hd => by cases hd; exact frm_lt (by decide), ?_⟩
                 dsimp only [frm, List.foldl, List.replicate, List.set]
                 have HI := Lib.hid hI
                 clear hI hR hld hlT hst
                 go_wp2
                 exact ⟨rfl, _, rfl, rfl, HI.out.next (by decide) (by decide) (by decide) (by decide) (by decide) (by decide), fun j_ y_ _ _ hx => hk _ _ j_ y_ hx⟩
               · refine Owes7.mk _ rfl rfl (fun _ _ h => by cases h) fun u n_ w' hm ls hI hli hld hlT hR => ⟨⟨(frm 175 [(95, u 8)]).toArray, []⟩, rfl, fun d hd => by cases hd; exact frm_lt (by decide), ?_⟩
                 dsimp only [frm, List.foldl, List.replicate, List.set]
                 have l16 : ls 16 = false := by
                  cases e : ls 16 with
                  | false => rfl
                  | true => have := hld 16 e 9 (by decide); rw [hli] at this; cases this
                 obtain ⟨-, -, -, -, -, -, hbel⟩ := hI.pre l16
                 have z_ve1 := keep_cell hbel ve1
                 clear hbel
                 have ev8 : u 8 = _ := hR 8 (by decide)
                 rw [ev8]
                 have HI := Lib.hid hI
                 clear hI hR hld hlT hst ev8
                 go_wp2
                 exact ⟨rfl, _, rfl, rfl, HI.out.next (by decide) (by decide) (by decide) (by decide) (by decide) (by decide), fun j_ y_ _ _ hx => hk _ _ j_ y_ hx⟩
               · refine Owes7.mk _ rfl rfl (fun _ _ h => by cases h) fun u n_ w' hm ls hI hli hld hlT hR => ⟨⟨(frm 175 [(94, u 7), (96, u 9)]).toArray, []⟩, rfl, fun d hd => by cases hd; exact frm_lt (by decide), ?_⟩
                 dsimp only [frm, List.foldl, List.replicate, List.set]
                 have ev7 : u 7 = _ := hR 7 (by decide)
                 have ev9 : u 9 = _ := hR 9 (by decide)
                 rw [ev7, ev9]
                 have HI := Lib.hid hI
                 clear hI hR hld hlT hst ev7 ev9
                 go_wp2
                 exact ⟨rfl, _, rfl, rfl, HI.out.next (by decide) (by decide) (by decide) (by decide) (by decide) (by decide), fun j_ y_ _ _ hx => hk _ _ j_ y_ hx⟩
               · refine Owes7.mk _ rfl rfl (fun _ _ h => by cases h) fun u n_ w' hm ls hI hli hld hlT hR => ⟨⟨(frm 175 [(97, u 10)]).toArray, []⟩, rfl, fun d hd => by cases hd; exact frm_lt (by decide), ?_⟩
                 dsimp only [frm, List.foldl, List.replicate, List.set]
                 have l16 : ls 16 = false := by
                  cases e : ls 16 with
                  | false => rfl
                  | true => have := hld 16 e 11 (by decide); rw [hli] at this; cases this
                 obtain ⟨-, -, -, -, -, -, hbel⟩ := hI.pre l16
                 have z_crow := keep_cell hbel crow
                 clear hbel
                 have ev10 : u 10 = _ := hR 10 (by decide)
                 rw [ev10]
                 have HI := Lib.hid hI
                 clear hI hR hld hlT hst ev10
                 go_wp2
                 exact ⟨rfl, _, rfl, rfl, HI.out.next (by decide) (by decide) (by decide) (by decide) (by decide) (by decide), fun j_ y_ _ _ hx => hk _ _ j_ y_ hx⟩
               · refine Owes7.mk _ rfl rfl (fun _ _ h => by cases h) fun u n_ w' hm ls hI hli hld hlT hR => ⟨⟨(frm 175 [(5, .pointer (some ⟨bs + 1 + 1, 0, none⟩))]).toArray, []⟩, rfl, fun d hd => by cases hd; exact frm_lt (by decide), ?_⟩
                 dsimp only [frm, List.foldl, List.replicate, List.set]
                 have HI := Lib.hid hI
                 clear hI hR hld hlT hst
                 go_wp2
                 exact ⟨rfl, _, rfl, rfl, HI.out.next (by decide) (by decide) (by decide) (by decide) (by decide) (by decide), fun j_ y_ _ _ hx => hk _ _ j_ y_ hx⟩
               · refine Owes7.mk _ rfl rfl (fun _ _ h => by cases h) fun u n_ w' hm ls hI hli hld hlT hR => ⟨⟨(frm 175 [(99, u 12)]).toArray, []⟩, rfl, fun d hd => by cases hd; exact frm_lt (by decide), ?_⟩
                 dsimp only [frm, List.foldl, List.replicate, List.set]
                 have l16 : ls 16 = false := by
                  cases e : ls 16 with
                  | false => rfl
                  | true => have := hld 16 e 13 (by decide); rw [hli] at this; cases this
                 obtain ⟨-, -, -, -, -, -, hbel⟩ := hI.pre l16
                 have z_ve2 := keep_cell hbel ve2
                 clear hbel
                 have ev12 : u 12 = _ := hR 12 (by decide)
                 rw [ev12]
                 have HI := Lib.hid hI
                 clear hI hR hld hlT hst ev12
                 go_wp2
                 exact ⟨rfl, _, rfl, rfl, HI.out.next (by decide) (by decide) (by decide) (by decide) (by decide) (by decide), fun j_ y_ _ _ hx => hk _ _ j_ y_ hx⟩
               · refine Owes7.mk _ rfl rfl (fun _ _ h => by cases h) fun u n_ w' hm ls hI hli hld hlT hR => ⟨⟨(frm 175 [(98, u 11), (100, u 13)]).toArray, []⟩, rfl, fun d hd => by cases hd; exact frm_lt (by decide), ?_⟩
                 dsimp only [frm, List.foldl, List.replicate, List.set]
                 have ev11 : u 11 = _ := hR 11 (by decide)
                 have ev13 : u 13 = _ := hR 13 (by decide)
                 rw [ev11, ev13]
                 have HI := Lib.hid hI
                 clear hI hR hld hlT hst ev11 ev13
                 go_wp2
                 exact ⟨rfl, _, rfl, rfl, HI.out.next (by decide) (by decide) (by decide) (by decide) (by decide) (by decide), fun j_ y_ _ _ hx => hk _ _ j_ y_ hx⟩
               · refine Owes7.mk _ rfl rfl (fun _ _ h => by cases h) fun u n_ w' hm ls hI hli hld hlT hR => ⟨⟨(frm 175 [(101, u 14)]).toArray, []⟩, rfl, fun d hd => by cases hd; exact frm_lt (by decide), ?_⟩
                 dsimp only [frm, List.foldl, List.replicate, List.set]
                 have l16 : ls 16 = false := by
                  cases e : ls 16 with
                  | false => rfl
                  | true => have := hld 16 e 15 (by decide); rw [hli] at this; cases this
                 obtain ⟨-, -, -, -, -, -, hbel⟩ := hI.pre l16
                 have z_q0 := keep_cell hbel q0
                 have z_q1 := keep_cell hbel q1
                 have z_q2 := keep_cell hbel q2
                 have z_q3 := keep_cell hbel q3
                 have z_q4 := keep_cell hbel q4
                 have z_q5 := keep_cell hbel q5
                 have z_q6 := keep_cell hbel q6
                 clear hbel
                 have ev14 : u 14 = _ := hR 14 (by decide)
                 rw [ev14]
                 have HI := Lib.hid hI
                 clear hI hR hld hlT hst ev14
                 go_wp2
                 exact ⟨rfl, _, rfl, rfl, HI.out.next (by decide) (by decide) (by decide) (by decide) (by decide) (by decide), fun j_ y_ _ _ hx => hk _ _ j_ y_ hx⟩
               · refine Owes7.mk _ rfl rfl (fun _ _ h => by cases h) fun u n_ w' hm ls hI hli hld hlT hR => ⟨⟨(frm 175 [(88, u 1), (90, u 3), (92, u 5), (102, u 15)]).toArray, []⟩, rfl, fun d hd => by cases hd; exact frm_lt (by decide), ?_⟩
                 dsimp only [frm, List.foldl, List.replicate, List.set]
                 have l17 : ls 17 = false := by
                  cases e : ls 17 with
                  | false => rfl
                  | true => have := hld 17 e 16 (by decide); rw [hli] at this; cases this
                 have l19 : ls 19 = false := by
                  cases e : ls 19 with
                  | false => rfl
                  | true => have := hld 19 e 16 (by decide); rw [hli] at this; cases this
                 have l22 : ls 22 = false := by
                  cases e : ls 22 with
                  | false => rfl
                  | true => have := hld 22 e 16 (by decide); rw [hli] at this; cases this
                 have l16 : ls 16 = false := hli
                 obtain ⟨Lx, hLx, hSx, hzx, hdx, hex, hbel⟩ := hI.pre l16
                 have ev1 : u 1 = _ := hR 1 (by decide)
                 have ev3 : u 3 = _ := hR 3 (by decide)
                 have ev5 : u 5 = _ := hR 5 (by decide)
                 have ev15 : u 15 = _ := hR 15 (by decide)
                 rw [ev1, ev3, ev5, ev15]
                 have hCx := HC.out
                 have hnm : ∀ c, c ∈ fm -> c ∉ fw ++ fh := fun c hc hn => (hSx.bv.fz c hc).2.1 (by have := hLx c (HC.out.c.inL c (by simp at hn; rcases hn with hn | hn <;> simp [hn])); simp [this])
                 have hnd : ∀ c, c ∈ fd ++ fl -> c ∉ fw ++ fh := fun c hc hn => (hzx c hc).2.1 (by have := hLx c (HC.out.c.inL c (by simp at hn; rcases hn with hn | hn <;> simp [hn])); simp [this])
                 have HI := Lib.hid hI
                 have HSx := Lib.hid hSx
                 have HDx := Lib.hid hdx
                 have HEx := Lib.hid hex
                 have HZx := Lib.hid hzx
                 have HBx := Lib.hid hbel
                 have HNM := Lib.hid hnm
                 have HND := Lib.hid hnd
                 clear hI hSx hdx hex hzx hbel hnm hnd hR hld hlT hst ev1 ev3 ev5 ev15 hLx
                 go_wp2_with fail
                 refine (l4Do_any lm ms hs x (k : Int) _ _ _ _ _ fm fw fh fd fl HSx.out.tv.lm HSx.out.tv.lh (by omega) (by omega) HFT.out _ HSx.out.bv.mp HSx.out.tv.mem HSx.out.tv.hol HDx.out HEx.out (fun c hc => HSx.out.tv.fr c (by simp at hc; rcases hc with hc | hc <;> simp [hc])) HC.out.c.wh HNM.out (fun c hc => HND.out c (by simp [hc])) (fun c hc => HND.out c (by simp [hc]))).mono ?_
                 rintro e w6 ⟨dv, fdv, rfl, g1, g2, g3, gn, gc, gf⟩
                 have hfa : ∀ c, c ∈ fa -> c ∉ fw ++ fh := fun c hc hn => by
                  rcases List.mem_append.1 hn with hn | hn
                  · exact HC.out.c.wa c hn hc
                  · exact HC.out.c.ha c hn hc
                 have hH := HI.out.call (cod := (atmDo lm ms hs (k : Int) x).code) l16 l17 l19 l22 (fun Lx hl hS => hS.turn ⟨HC.out.eb, ⟨fun c hc => hl c (HC.out.c.inL c hc), HC.out.c.wh, HC.out.c.wa, HC.out.c.ha⟩, HC.out.lw, HC.out.lm⟩ gc (fun c hc => by simp at hc; rcases hc with hc | hc <;> simp [hc]) (by rw [atmDo_mem]; exact hS.tv.lm) (by rw [atmDo_holds]; exact hS.tv.lh) hS.tv.la g1 g2 (hS.tv.ask.chg intR_fits gc hfa) (Free.app' gf (Free.chg (fun c hc => hS.tv.fr c (by simp [hc])) (fun c hc => hS.tv.ask.lt intR_fits c hc) gc hfa))) gc (fun c hc => by have := HC.out.lw c (by simp at hc; rcases hc with hc | hc <;> simp [hc]); have := HB4.out.rs.1; omega) g3 (atmDo_data _ _ _ _ _) (fun Lx hl hS => Fz.new hS.th gc gn.lo (fun c hc => g3.lt intR_fits c hc))
                 have HH := Lib.hid hH
                 clear hH g1 g2 g3 gn gc gf hfa
                 go_wp2
                 exact ⟨rfl, _, rfl, trivial, HH.out, fun j_ y_ _ _ hx => hk _ _ j_ y_ hx⟩
               · refine Owes7.mk _ rfl rfl (fun _ _ h => by cases h) fun u n_ w' hm ls hI hli hld hlT hR => ⟨⟨(frm 175 [(103, u 16)]).toArray, []⟩, rfl, fun d hd => by cases hd; exact frm_lt (by decide), ?_⟩
                 dsimp only [frm, List.foldl, List.replicate, List.set]
                 have l19 : ls 19 = false := by
                  cases e : ls 19 with
                  | false => rfl
                  | true => have := hld 19 e 17 (by decide); rw [hli] at this; cases this
                 have l16 : ls 16 = true := hlT 16 (by decide)
                 have HI := Lib.hid (hI.mv (v := u 16) l16 l19 rfl)
                 clear hI hR hld hlT hst
                 go_wp2
                 exact ⟨rfl, _, rfl, trivial, HI.out, fun j_ y_ _ _ hx => hk _ _ j_ y_ hx⟩
               · refine Owes7.mk _ rfl rfl (fun _ _ h => by cases h) fun u n_ w' hm ls hI hli hld hlT hR => ⟨⟨(frm 175 [(86, u 17)]).toArray, []⟩, rfl, fun d hd => by cases hd; exact frm_lt (by decide), ?_⟩
                 dsimp only [frm, List.foldl, List.replicate, List.set]
                 have l16 : ls 16 = true := hlT 16 (by decide)
                 obtain ⟨cod, dv, -, e17, -⟩ := hI.tup l16
                 have e17 := e17 (hlT 17 (by decide))
                 rw [e17]
                 have HI := Lib.hid hI
                 clear hI hR hld hlT hst e17
                 go_wp2
                 exact ⟨rfl, _, rfl, rfl, HI.out.next (by decide) (by decide) (by decide) (by decide) (by decide) (by decide), fun j_ y_ _ _ hx => hk _ _ j_ y_ hx⟩
               · refine Owes7.mk _ rfl rfl (fun _ _ h => by cases h) fun u n_ w' hm ls hI hli hld hlT hR => ⟨⟨(frm 175 [(86, u 17)]).toArray, []⟩, rfl, fun d hd => by cases hd; exact frm_lt (by decide), ?_⟩
                 dsimp only [frm, List.foldl, List.replicate, List.set]
                 have l16 : ls 16 = true := hlT 16 (by decide)
                 obtain ⟨cod, dv, -, e17, hH⟩ := hI.tup l16
                 have e17 := e17 (hlT 17 (by decide))
                 rw [e17]
                 have HH := Lib.hid hH
                 clear hI hR hld hlT hst e17 hH
                 go_wp2
                 exact ⟨rfl, _, rfl, trivial, HH.out, fun j_ y_ _ _ hx => hk _ _ j_ y_ hx⟩
               · refine Owes7.mk _ rfl rfl (fun _ _ h => by cases h) fun u n_ w' hm ls hI hli hld hlT hR => ⟨⟨(frm 175 []).toArray, []⟩, rfl, fun d hd => by cases hd; exact frm_lt (by decide), ?_⟩
                 dsimp only [frm, List.foldl, List.replicate, List.set]
                 have l22 : ls 22 = false := by
                  cases e : ls 22 with
                  | false => rfl
                  | true => have := hld 22 e 20 (by decide); rw [hli] at this; cases this
                 have ba := below_alloc w' (.cells #[.slice none 0 0, .slice none 0 0] 68)
                 have hH := hI.box0 l22 (fun Lx ms_ hs_ hl hS => StB.open1 ⟨HC.out.eb, ⟨fun c hc => hl c (HC.out.c.inL c hc), HC.out.c.wh, HC.out.c.wa, HC.out.c.ha⟩, HC.out.lw, HC.out.lm⟩ hS ba (Nat.le_refl _) (by simp)) ba (room_alloc rfl (by simp))
                 have HH := Lib.hid hH
                 clear hI hR hld hlT hst ba hH
                 go_wp2
                 exact ⟨rfl, _, rfl, trivial, HH.out, fun j_ y_ _ _ hx => hk _ _ j_ y_ hx⟩
               · refine Owes7.mk _ rfl rfl (fun _ _ h => by cases h) fun u n_ w' hm ls hI hli hld hlT hR => ⟨⟨(frm 175 []).toArray, []⟩, rfl, fun d hd => by cases hd; exact frm_lt (by decide), ?_⟩
                 dsimp only [frm, List.foldl, List.replicate, List.set]
                 have l22 : ls 22 = false := by
                  cases e : ls 22 with
                  | false => rfl
                  | true => have := hld 22 e 21 (by decide); rw [hli] at this; cases this
                 have ba := below_alloc w' (.cells #[.int .i64 0, .int .i64 0, .slice none 0 0] 62)
                 have hH := hI.box1 l22 (fun Lx ms_ hs_ hl hS => StB.open1 ⟨HC.out.eb, ⟨fun c hc => hl c (HC.out.c.inL c hc), HC.out.c.wh, HC.out.c.wa, HC.out.c.ha⟩, HC.out.lw, HC.out.lm⟩ hS ba (Nat.le_refl _) (by simp)) ba (room_alloc rfl (by simp))
                 have HH := Lib.hid hH
                 clear hI hR hld hlT hst ba hH
                 go_wp2
                 exact ⟨rfl, _, rfl, trivial, HH.out, fun j_ y_ _ _ hx => hk _ _ j_ y_ hx⟩
               · refine Owes7.mk _ rfl rfl (fun _ _ h => by cases h) fun u n_ w' hm ls hI hli hld hlT hR => ⟨⟨(frm 175 [(9, u 20), (104, u 18)]).toArray, []⟩, rfl, fun d hd => (by cases hd), ?_⟩
                 dsimp only [frm, List.foldl, List.replicate, List.set]
                 have ev18 : u 18 = _ := hR 18 (by decide)
                 obtain ⟨q, e20, hrq, hH⟩ := hI.lay (hlT 16 (by decide)) (hlT 20 (by decide)) (hlT 21 (by decide)) (fun Lx ms_ hs_ q w9 hl hq hN hc hS => StB.far ⟨HC.out.eb, ⟨fun c hc => hl c (HC.out.c.inL c hc), HC.out.c.wh, HC.out.c.wa, HC.out.c.ha⟩, HC.out.lw, HC.out.lm⟩ hS hc hq (by have := HB4.out.rs.1; omega))
                 rw [ev18, e20]
                 obtain ⟨y0, r0⟩ := hrq.2.1 0 (by omega)
                 obtain ⟨y1, r1⟩ := hrq.2.1 1 (by omega)
                 have f0 := hrq.2.2 0
                 have f1 := hrq.2.2 1
                 have HH := Lib.hid (hH undef)
                 clear hI hR hld hlT hst ev18 e20 hH hrq
                 go_wp2
                 exact ⟨rfl, undef, rfl, trivial, HH.out, fun j_ y_ _ _ hx => hk _ _ j_ y_ hx⟩
              case hend =>
               intro ls u w' hls hI hR
               simp only [setAll, List.set_cons_zero, List.set_cons_succ]
               obtain ⟨Lx, ms2, hs2, hLx, hSx, -, h16, h20, h21, hne, -⟩ := hI
               obtain ⟨cod, dv, fdv, dl, -, -, hg, hgl, hz, h19⟩ := h16 (hls 16 (by omega))
               have e19 := h19 (hls 19 (by omega))
               obtain ⟨p0, e20, hp0, hN0, hr0, hF0⟩ := h20 (hls 20 (by omega))
               have hF := hF0 (hls 22 (by omega))
               obtain ⟨p1, e21, hp1, hN1, hr1⟩ := h21 (hls 21 (by omega))
               have hpp : p0 ≠ p1 := fun e => hne (hls 20 (by omega)) (hls 21 (by omega)) (by rw [e20, e21, e])
               rw [e19, e20, e21]
               obtain ⟨va_, vn_, vc_, rfl⟩ := hg.form
               have hp0b : bs + 1 + 1 + 1 < p0 := by have := HB4.out.rs.1; omega
               have hp1b : bs + 1 + 1 + 1 < p1 := by have := HB4.out.rs.1; omega
               obtain ⟨y0, r0⟩ := hr1.2.1 0 (by omega)
               obtain ⟨y1, r1⟩ := hr1.2.1 1 (by omega)
               obtain ⟨y2, r2⟩ := hr1.2.1 2 (by omega)
               have f0 := hr1.2.2 0
               have f1 := hr1.2.2 1
               have f2 := hr1.2.2 2
               have HRY := Lib.hid HB4.out.tv.ny
               have HLX := Lib.hid hLx
               have HSx := Lib.hid hSx
               have HG := Lib.hid hg
               have HZ := Lib.hid hz
               have HF := Lib.hid hF
               have HP0 := Lib.hid hp0
               have HP1 := Lib.hid hp1
               clear hLx hSx hg hz hF hF0 hp0 hp1 hr0 hr1 h16 h20 h21 h19 hne hls hR hst hk e19 e20 e21 b0 b2 s0 s1 ve1 ve2 crow q0 q1 q2 q3 q4 q5 q6 HB4 HD HE HFZ HRW4
               obtain ⟨CX, hCX⟩ : ∃ z : StC Lx bs w fm fw fh fa, z = z := ⟨⟨HC.out.eb, ⟨fun c hc => HLX.out c (HC.out.c.inL c hc), HC.out.c.wh, HC.out.c.wa, HC.out.c.ha⟩, HC.out.lw, HC.out.lm⟩, rfl⟩
               have HCX := Lib.hid CX
               clear hCX
               go_upto_region 15 with fail
               obtain ⟨w5, hw5⟩ : ∃ z, z = ((w'.setCell ⟨p1, 0, none⟩ (.int .i64 x.id)).setCell ⟨p1, 1, none⟩ (.int .i64 cod)).setCell ⟨p1, 2, none⟩ (.slice va_ vn_ vc_) := ⟨_, rfl⟩
               rw [<- hw5]
               have ch5 : Chg [p1] w' w5 := by rw [hw5]; exact ((store_chg _).trans' (store_chg _)).trans' (store_chg _)
               have HB5 := Lib.hid (StB.far HCX.out HSx.out ch5 HP1.out hp1b)
               have a0 := keep_cell_chg ch5 (HF.out 0 (by simp)) (by simpa using hpp)
               have a1 := keep_cell_chg ch5 (HF.out 1 (by simp)) (by simpa using hpp)
               simp only [List.getElem_cons_zero, List.getElem_cons_succ] at a0 a1
               have RA : RspAt p1 x.id cod (.slice va_ vn_ vc_) dl fdv (bx bs ++ Lx) T0 w5 := ⟨by rw [hw5]; exact setOther _ (by decide) (setOther _ (by decide) (setSame _ r0)), by rw [hw5]; exact setOther _ (by decide) (setSame _ (setOther _ (by decide) r1)), by rw [hw5]; exact setSame _ (setOther _ (by decide) (setOther _ (by decide) r2)), HG.out.chg intR_fits ch5 (fun c hm e => by simp at e; subst e; exact (HZ.out c hm).2.1 (by simp [HP1.out])), HZ.out.step (Step.of_chg ch5)⟩
               have HRA5 := Lib.hid RA
               clear hw5 ch5 r0 r1 r2 f0 f1 f2 RA HSx HG HZ HF
               have s0 := HB5.out.s0
               have s1 := HB5.out.s1
               have fs0 := HB5.out.fs 0
               have fs1 := HB5.out.fs 1
               go_upto_region 16 with fail
               obtain ⟨w6, hw6⟩ : ∃ z, z = (w5.setCell ⟨bs + 1, 0, none⟩ (.slice aw nw cw)).setCell ⟨bs + 1, 1, none⟩ (.slice ah nh ch) := ⟨_, rfl⟩
               rw [<- hw6]
               have ch6 : Chg [bs + 1] w5 w6 := by rw [hw6]; exact (store_chg _).trans' (store_chg _)
               have HB6 := Lib.hid (StB.box (w' := w6) (m' := m) HCX.out HB5.out ch6 (by rw [hw6]; exact setOther _ (by decide) (setSame _ HB5.out.s0)) (by rw [hw6]; exact setSame _ (setOther _ (by decide) HB5.out.s1)) (by rw [hw6]; exact setOther _ (by decide) (setOther _ (by decide) HB5.out.s2)) (by rw [hw6]; exact setOther _ (by decide) (setOther _ (by decide) HB5.out.s3)) (by rw [hw6]; exact setOther _ (by decide) (setOther _ (by decide) HB5.out.s4)) (by rw [hw6]; exact setOther _ (by decide) (setOther _ (by decide) HB5.out.s5)) (fun o => by rw [hw6]; exact ((World.frozen?_setCell ..).trans (World.frozen?_setCell ..)).trans (HB5.out.fs o)) HB5.out.tv.wt HB5.out.tv.dn HB5.out.tv.td HB5.out.tv.nx HB5.out.tv.ny HB5.out.tv.nz)
               have hL1 : ∀ c, c ∈ [bs + 1] -> c ∈ bx bs ++ Lx := fun c hm => by simp at hm; subst hm; simp [bx]
               have hpn : p1 ∉ [bs + 1] := by simp; omega
               have HL1 := Lib.hid hL1
               have HRA6 := Lib.hid (HRA5.out.chg ch6 hL1 hpn)
               clear hw6 ch6 s0 s1 fs0 fs1 a0 a1 HB5 HRA5 hL1
               have s3 := HB6.out.s3
               go_wp2_with fail
               refine (l5Out_b (bx bs ++ Lx) T0 xa xn xc (zi : Int) (by have := HB6.out.tv.nx; omega) _ HB6.out.th HB6.out.tv.wt).mono ?_
               rintro e w7 ⟨T7, a7, m7, c7, rfl, hm7, t7, st7, hA7⟩
               have HRA7 := Lib.hid (HRA6.out.step st7 (HB6.out.th.rd p1 (by simp [HP1.out])))
               have HB7 := Lib.hid (HB6.out.step HCX.out t7 st7)
               have HA7 := Lib.hid hA7
               have hm7b : m7 <= m + 1 := by have := HB6.out.tv.nx; omega
               clear t7 st7 hA7 HB6 HRA6 s3
               have s3 := HB7.out.s3
               have fs3 := HB7.out.fs 3
               go_upto_region 17 with fail
               obtain ⟨w8, hw8⟩ : ∃ z, z = w7.setCell ⟨bs + 1, 3, none⟩ (.slice a7 m7 c7) := ⟨_, rfl⟩
               rw [<- hw8]
               have ch8 : Chg [bs + 1] w7 w8 := by rw [hw8]; exact store_chg _
               have HB8 := Lib.hid (StB.box (w' := w8) (m' := m + 1) HCX.out HB7.out ch8 (by rw [hw8]; exact setOther _ (by decide) HB7.out.s0) (by rw [hw8]; exact setOther _ (by decide) HB7.out.s1) (by rw [hw8]; exact setOther _ (by decide) HB7.out.s2) (by rw [hw8]; exact setSame _ HB7.out.s3) (by rw [hw8]; exact setOther _ (by decide) HB7.out.s4) (by rw [hw8]; exact setOther _ (by decide) HB7.out.s5) (fun o => by rw [hw8]; exact (World.frozen?_setCell ..).trans (HB7.out.fs o)) HA7.out HB7.out.tv.dn HB7.out.tv.td hm7b (by have := HB7.out.tv.ny; omega) (by have := HB7.out.tv.nz; omega))
               have HRA8 := Lib.hid (HRA7.out.chg ch8 HL1.out hpn)
               clear hw8 ch8 s3 fs3 HB7 HRA7 HA7
               have s4 := HB8.out.s4
               have ve1 := HB8.out.e1
               have ve2 := HB8.out.e2
               have x0 := HRA8.out.c0
               have x1 := HRA8.out.c1
               have x2 := HRA8.out.c2
               go_wp2_with fail
               refine (l5Put_b (bx bs ++ Lx) T7 ya yn yc ⟨k, j, ⟨x.id, cod, dl⟩⟩ va_ vn_ vc_ (show yn <= 1000 by have := HB8.out.tv.ny; omega) _ HB8.out.th HB8.out.tv.dn ⟨⟨k, j, ⟨x.id, cod, dl⟩⟩, fdv, ⟨_, fdv, rfl, rfl, HRA8.out.g⟩, ⟨by show 0 <= (k : Int); omega, by show (k : Int) <= 2; omega, by show 0 <= (j : Int); omega, by show (j : Int) <= 1000000; omega, hgl⟩, HRA8.out.z⟩).mono ?_
               rintro e w9 ⟨T9, a9, c9, rfl, t9, st9, hA9⟩
               have HB9 := Lib.hid (HB8.out.step HCX.out t9 st9)
               have HA9 := Lib.hid hA9
               have hyn9 : yn + 1 <= m + 1 := by have := HRY.out; omega
               clear t9 st9 hA9 HB8 HRA8 s4 ve1 ve2 x0 x1 x2
               have s4 := HB9.out.s4
               have fs4 := HB9.out.fs 4
               go_upto_region 18 with fail
               obtain ⟨wa, hwa⟩ : ∃ z, z = w9.setCell ⟨bs + 1, 4, none⟩ (.slice a9 (yn + 1) c9) := ⟨_, rfl⟩
               rw [<- hwa]
               have cha : Chg [bs + 1] w9 wa := by rw [hwa]; exact store_chg _
               have HBa := Lib.hid ((StB.box (w' := wa) (m' := m + 1) HCX.out HB9.out cha (by rw [hwa]; exact setOther _ (by decide) HB9.out.s0) (by rw [hwa]; exact setOther _ (by decide) HB9.out.s1) (by rw [hwa]; exact setOther _ (by decide) HB9.out.s2) (by rw [hwa]; exact setOther _ (by decide) HB9.out.s3) (by rw [hwa]; exact setSame _ HB9.out.s4) (by rw [hwa]; exact setOther _ (by decide) HB9.out.s5) (fun o => by rw [hwa]; exact (World.frozen?_setCell ..).trans (HB9.out.fs o)) HB9.out.tv.wt HA9.out HB9.out.tv.td HB9.out.tv.nx hyn9 HB9.out.tv.nz).shut HLX.out)
               clear hwa cha s4 fs4 HB9 HA9
               have d0 := HBa.out.s0
               have d1 := HBa.out.s1
               have d2 := HBa.out.s2
               have d3 := HBa.out.s3
               have d4 := HBa.out.s4
               have d5 := HBa.out.s5
               obtain ⟨y0, r0⟩ := HBa.out.rs.2.1 0 (by omega)
               obtain ⟨y1, r1⟩ := HBa.out.rs.2.1 1 (by omega)
               obtain ⟨y2, r2⟩ := HBa.out.rs.2.1 2 (by omega)
               obtain ⟨y3, r3⟩ := HBa.out.rs.2.1 3 (by omega)
               obtain ⟨y4, r4⟩ := HBa.out.rs.2.1 4 (by omega)
               obtain ⟨y5, r5⟩ := HBa.out.rs.2.1 5 (by omega)
               have f0 := HBa.out.rs.2.2 0
               have f1 := HBa.out.rs.2.2 1
               have f2 := HBa.out.rs.2.2 2
               have f3 := HBa.out.rs.2.2 3
               have f4 := HBa.out.rs.2.2 4
               have f5 := HBa.out.rs.2.2 5
               go_wp2
               obtain ⟨t0, t1, t2, t3, t4, t5, t6⟩ := fin6 d0 d1 d2 d3 d4 d5 r0 r1 r2 r3 r4 r5
               have hfin := (StB.mono (m' := m + 1) HBa.out (by omega)).done (ok := true) HC.out t6 (fun _ => ⟨by omega, by omega⟩)
               exact bodyPost_ret (by simp [results, Try.results112, go_sem, t0, t1, t2, t3, t4, t5]) rfl hfin
        · by_cases hk3' : kd = 3
          · subst hk3'
            have s4 := HB.out.s4
            have ve1 := HB.out.e1
            have ve2 := HB.out.e2
            obtain ⟨ly, fy, hly, hfy⟩ := HB.out.tv.dn.t.jobs HB.out.th HB.out.tv.dn.1 HB.out.tv.dn.2.1
            obtain ⟨lx, fx, hlx, hfx⟩ := HB.out.tv.wt.t.jobs HB.out.th HB.out.tv.wt.1 HB.out.tv.wt.2.1
            have hll : ly.length = yn := by
             have h' := hly
             obtain ⟨_, _, _, e, h2, _⟩ := h'
             cases e; exact h2
            have HLX := Lib.hid hlx
            have HFX := Lib.hid hfx
            have HLY := Lib.hid hly
            have HFY := Lib.hid hfy
            have HLL := Lib.hid hll
            clear hlx hfx hly hfy hll
            go_wp2_with fail
            refine (l5At_b _ ly fy _ _ _ HLY.out).mono ?_
            rintro e w3 ⟨⟨z, hz0, hz1, rfl⟩, rfl⟩
            have hz2 : z < yn := by have := HLL.out; omega
            clear hz1
            by_cases hzn : z < 0
            · clear s4 ve1 ve2
              go_upto_region 22 with fail
              have d0 := HB.out.s0
              have d1 := HB.out.s1
              have d2 := HB.out.s2
              have d3 := HB.out.s3
              have d4 := HB.out.s4
              have d5 := HB.out.s5
              obtain ⟨y0, r0⟩ := HB.out.rs.2.1 0 (by omega)
              obtain ⟨y1, r1⟩ := HB.out.rs.2.1 1 (by omega)
              obtain ⟨y2, r2⟩ := HB.out.rs.2.1 2 (by omega)
              obtain ⟨y3, r3⟩ := HB.out.rs.2.1 3 (by omega)
              obtain ⟨y4, r4⟩ := HB.out.rs.2.1 4 (by omega)
              obtain ⟨y5, r5⟩ := HB.out.rs.2.1 5 (by omega)
              have f0 := HB.out.rs.2.2 0
              have f1 := HB.out.rs.2.2 1
              have f2 := HB.out.rs.2.2 2
              have f3 := HB.out.rs.2.2 3
              have f4 := HB.out.rs.2.2 4
              have f5 := HB.out.rs.2.2 5
              go_wp2
              obtain ⟨t0, t1, t2, t3, t4, t5, t6⟩ := fin6 d0 d1 d2 d3 d4 d5 r0 r1 r2 r3 r4 r5
              have hfin := (StB.mono (m' := m + 1) HB.out (by omega)).done (ok := false) HC.out t6 (fun h => by cases h)
              exact bodyPost_ret (by simp [results, Try.results112, go_sem, t0, t1, t2, t3, t4, t5]) rfl hfin
            · obtain ⟨zi, rfl⟩ := Int.eq_ofNat_of_zero_le (show 0 <= z by omega)
              have b0 := HB.out.b0
              have b1 := HB.out.b1
              have b2 := HB.out.b2
              have s3 := HB.out.s3
              go_wp2_with fail
              refine (l5First_b ps _ _ _ fps lx _ fx k j hkl (by rw [HPL.out]; exact hjr) (fun q hq => (HFX.out q hq).2.2.1) ⟨_, _, _, rfl⟩ ⟨_, _, _, rfl⟩ _ HPS.out HLX.out).mono ?_
              rintro e w4 ⟨⟨bf, rfl⟩, bb⟩
              have HB4 := Lib.hid (HB.out.below HC.out bb)
              have HPS4 := Lib.hid (HPS.out.below (slR_fits reqR_fits) bb)
              have HLY4 := Lib.hid (HLY.out.below jobR_fits bb)
              clear bb HB HLX HLY HPS HRW s3 s4 ve1 ve2 b0 b1 b2 ve0
              cases bf
              · go_upto_region 22 with fail
                have d0 := HB4.out.s0
                have d1 := HB4.out.s1
                have d2 := HB4.out.s2
                have d3 := HB4.out.s3
                have d4 := HB4.out.s4
                have d5 := HB4.out.s5
                obtain ⟨y0, r0⟩ := HB4.out.rs.2.1 0 (by omega)
                obtain ⟨y1, r1⟩ := HB4.out.rs.2.1 1 (by omega)
                obtain ⟨y2, r2⟩ := HB4.out.rs.2.1 2 (by omega)
                obtain ⟨y3, r3⟩ := HB4.out.rs.2.1 3 (by omega)
                obtain ⟨y4, r4⟩ := HB4.out.rs.2.1 4 (by omega)
                obtain ⟨y5, r5⟩ := HB4.out.rs.2.1 5 (by omega)
                have f0 := HB4.out.rs.2.2 0
                have f1 := HB4.out.rs.2.2 1
                have f2 := HB4.out.rs.2.2 2
                have f3 := HB4.out.rs.2.2 3
                have f4 := HB4.out.rs.2.2 4
                have f5 := HB4.out.rs.2.2 5
                go_wp2
                obtain ⟨t0, t1, t2, t3, t4, t5, t6⟩ := fin6 d0 d1 d2 d3 d4 d5 r0 r1 r2 r3 r4 r5
                have hfin := (StB.mono (m' := m + 1) HB4.out (by omega)).done (ok := false) HC.out t6 (fun h => by cases h)
                exact bodyPost_ret (by simp [results, Try.results112, go_sem, t0, t1, t2, t3, t4, t5]) rfl hfin
              · have b0 := HB4.out.b0
                have b1 := HB4.out.b1
                have b2 := HB4.out.b2
                have s4 := HB4.out.s4
                have ve1 := HB4.out.e1
                have ve2 := HB4.out.e2
                go_wp2_with fail
                refine (l5First_b ps _ _ _ fps ly _ fy k j hkl (by rw [HPL.out]; exact hjr) (fun q hq => (HFY.out q hq).2.2.1) ⟨_, _, _, rfl⟩ ⟨_, _, _, rfl⟩ _ HPS4.out HLY4.out).mono ?_
                rintro e w5 ⟨⟨bf, rfl⟩, bb⟩
                have HB5 := Lib.hid (HB4.out.below HC.out bb)
                clear bb HB4 HLY4 HPS4 s4 ve1 ve2 b0 b1 b2
                cases bf
                · go_upto_region 22 with fail
                  have d0 := HB5.out.s0
                  have d1 := HB5.out.s1
                  have d2 := HB5.out.s2
                  have d3 := HB5.out.s3
                  have d4 := HB5.out.s4
                  have d5 := HB5.out.s5
                  obtain ⟨y0, r0⟩ := HB5.out.rs.2.1 0 (by omega)
                  obtain ⟨y1, r1⟩ := HB5.out.rs.2.1 1 (by omega)
                  obtain ⟨y2, r2⟩ := HB5.out.rs.2.1 2 (by omega)
                  obtain ⟨y3, r3⟩ := HB5.out.rs.2.1 3 (by omega)
                  obtain ⟨y4, r4⟩ := HB5.out.rs.2.1 4 (by omega)
                  obtain ⟨y5, r5⟩ := HB5.out.rs.2.1 5 (by omega)
                  have f0 := HB5.out.rs.2.2 0
                  have f1 := HB5.out.rs.2.2 1
                  have f2 := HB5.out.rs.2.2 2
                  have f3 := HB5.out.rs.2.2 3
                  have f4 := HB5.out.rs.2.2 4
                  have f5 := HB5.out.rs.2.2 5
                  go_wp2
                  obtain ⟨t0, t1, t2, t3, t4, t5, t6⟩ := fin6 d0 d1 d2 d3 d4 d5 r0 r1 r2 r3 r4 r5
                  have hfin := (StB.mono (m' := m + 1) HB5.out (by omega)).done (ok := false) HC.out t6 (fun h => by cases h)
                  exact bodyPost_ret (by simp [results, Try.results112, go_sem, t0, t1, t2, t3, t4, t5]) rfl hfin
                · obtain ⟨bl, ol, y, ea, en, ec, rfl, hq, hfy, hUy⟩ := HB5.out.tv.dn.t.job (show zi < yn by omega) HB5.out.th
                  have q0 := hq 0 (by simp)
                  have q1 := hq 1 (by simp)
                  have q2 := hq 2 (by simp)
                  have q3 := hq 3 (by simp)
                  have q4 := hq 4 (by simp)
                  simp only [Nat.add_zero, List.getElem_cons_zero, List.getElem_cons_succ] at q0 q1 q2 q3 q4
                  have HUy := Lib.hid hUy
                  have s4 := HB5.out.s4
                  have s5 := HB5.out.s5
                  clear hq hfy hUy
                  go_upto_region 23 with fail
                  have hst : ∀ F, F ∈ [FEq (.pointer (some ⟨bs + 1, 5, none⟩)), FEq (.slice za zn zc), FEq (.pointer (some ⟨bs + 1, 4, none⟩)), FEq (.slice (some ⟨bl, ol, none⟩) yn yc), FEq (.int .i64 (zi : Int)), FEq (.pointer (some ⟨bl, ol + zi * 5, none⟩)), FEq (.agg #[.int .i64 y.who, .int .i64 y.n, .int .i64 y.rsp.id, .int .i64 y.rsp.code, .slice ea en ec]), FJob [.int .i64 y.who, .int .i64 y.n, .int .i64 y.rsp.id, .int .i64 y.rsp.code, .slice ea en ec]] -> Stable [] F := by
                   simp only [List.forall_mem_cons]
                   exact ⟨stEq _ _, stEq _ _, stEq _ _, stEq _ _, stEq _ _, stEq _ _, stEq _ _, stJob _, fun _ h => by simp at h⟩
                  refine wp_region_tail (by kernel_rfl) (fun i => (tbl5Step23 : List (List Nat)).getD i []) (facts [FEq (.pointer (some ⟨bs + 1, 5, none⟩)), FEq (.slice za zn zc), FEq (.pointer (some ⟨bs + 1, 4, none⟩)), FEq (.slice (some ⟨bl, ol, none⟩) yn yc), FEq (.int .i64 (zi : Int)), FEq (.pointer (some ⟨bl, ol + zi * 5, none⟩)), FEq (.agg #[.int .i64 y.who, .int .i64 y.n, .int .i64 y.rsp.id, .int .i64 y.rsp.code, .slice ea en ec]), FJob [.int .i64 y.who, .int .i64 y.n, .int .i64 y.rsp.id, .int .i64 y.rsp.code, .slice ea en ec]]) (fun m w' => Below w5.heap.size w5 w') 175 11 8 [some 158, some 159, some 160, some 161, some 162, some 163, some 164, some 165] _ rfl rfl (by decide) rfl rfl (by kernel_rfl) (by kernel_rfl) [] (by kernel_rfl) (fun g b hm v w h => by simp at hm) ?h0 (all_lt (n := 8) ?hop) ?hend
                  case h0 => exact (Below.refl _ _).drew
                  case hop =>
                   refine ⟨⟨⟨⟨⟨⟨⟨⟨trivial, ?_⟩, ?_⟩, ?_⟩, ?_⟩, ?_⟩, ?_⟩, ?_⟩, ?_⟩
                   · refine Owes.q 175 (fun u => [(4, .pointer (some ⟨bs + 1, 0, none⟩))]) fun u w' hI hR => ?_; dsimp only [frm, List.foldl, List.replicate, List.set]; clear hI hst hR; go_wp2; exact ⟨rfl, _, rfl, rfl, rfl⟩
                   · refine Owes.q 175 (fun u => [(158, u 0)]) fun u w' hI hR => ?_; dsimp only [frm, List.foldl, List.replicate, List.set]; obtain ⟨_, hI⟩ := hI; have k1 := keep_cell hI s5; have e0 : u 0 = _ := hR 0 (by decide); rw [e0]; clear hI hst hR; go_wp2; exact ⟨rfl, _, rfl, rfl, rfl⟩
                   · refine Owes.q 175 (fun u => [(4, .pointer (some ⟨bs + 1, 0, none⟩))]) fun u w' hI hR => ?_; dsimp only [frm, List.foldl, List.replicate, List.set]; clear hI hst hR; go_wp2; exact ⟨rfl, _, rfl, rfl, rfl⟩
                   · refine Owes.q 175 (fun u => [(160, u 2)]) fun u w' hI hR => ?_; dsimp only [frm, List.foldl, List.replicate, List.set]; obtain ⟨_, hI⟩ := hI; have k0 := keep_cell hI s4; have e2 : u 2 = _ := hR 2 (by decide); rw [e2]; clear hI hst hR; go_wp2; exact ⟨rfl, _, rfl, rfl, rfl⟩
                   · refine Owes.q 175 (fun u => [(11, .int .i64 (zi : Int))]) fun u w' hI hR => ?_; dsimp only [frm, List.foldl, List.replicate, List.set]; clear hI hst hR; go_wp2; exact ⟨rfl, _, rfl, rfl, rfl⟩
                   · refine Owes.q 175 (fun u => [(161, u 3), (162, u 4)]) fun u w' hI hR => ?_; dsimp only [frm, List.foldl, List.replicate, List.set]; have e3 : u 3 = _ := hR 3 (by decide); have e4 : u 4 = _ := hR 4 (by decide); rw [e3, e4]; clear hI hst hR; go_wp2; exact ⟨rfl, _, rfl, rfl, rfl⟩
                   · refine Owes.q 175 (fun u => [(163, u 5)]) fun u w' hI hR => ?_; dsimp only [frm, List.foldl, List.replicate, List.set]; obtain ⟨_, hI⟩ := hI; have k2 := keep_cell hI q0; have k3 := keep_cell hI q1; have k4 := keep_cell hI q2; have k5 := keep_cell hI q3; have k6 := keep_cell hI q4; have e5 : u 5 = _ := hR 5 (by decide); rw [e5]; clear hI hst hR; go_wp2; exact ⟨rfl, _, rfl, rfl, rfl⟩
                   · refine Owes.mk _ rfl rfl (fun _ _ h => by cases h) fun u m w' hm hI hR => ⟨⟨(frm 175 [(164, u 6)]).toArray, []⟩, rfl, fun d hd => by cases hd; exact frm_lt (by decide), ?_⟩
                     dsimp only [frm, List.foldl, List.replicate, List.set]
                     have e6 : u 6 = _ := hR 6 (by decide)
                     have k0 := keep_cell hI s4
                     have k1 := keep_cell hI s5
                     have k2 := keep_cell hI q0
                     have k3 := keep_cell hI q1
                     have k4 := keep_cell hI q2
                     have k5 := keep_cell hI q3
                     have k6 := keep_cell hI q4
                     rw [e6]
                     clear e6
                     have ba_ := below_alloc w' (.cells #[.int .i64 y.who, .int .i64 y.n, .int .i64 y.rsp.id, .int .i64 y.rsp.code, .slice ea en ec] 64)
                     have HS8 := Lib.hid (facts_stable hst (ba_.chg []))
                     have HB8 := Lib.hid (hI.trans (ba_.mono hI.size))
                     clear hI hst hR ba_
                     go_wp2
                     exact ⟨rfl, _, rfl, ⟨w'.heap.size, rfl, fun j_ hj_ => alloc1_new _ _ _ j_ (by rw [<- Array.getElem?_toList]; exact List.getElem?_eq_getElem hj_)⟩, HB8.out, HS8.out⟩
                  case hend =>
                   intro u w' hI hR
                   simp only [setAll, List.set_cons_zero, List.set_cons_succ]
                   have g1 : u 1 = _ := hR 1 (by decide)
                   obtain ⟨b7, g7, hc7⟩ := hR 7 (by decide)
                   rw [g1, g7]
                   obtain ⟨w6, hw6⟩ : ∃ z, z = w' := ⟨_, rfl⟩
                   subst hw6
                   have HB6 := Lib.hid (HB5.out.below HC.out hI)
                   have HUz := Lib.hid (HUy.out.step (Step.of_below [] hI) (by simp))
                   have hcell : ∀ (j_ : Nat) (hj_ : j_ < ([.int .i64 y.who, .int .i64 y.n, .int .i64 y.rsp.id, .int .i64 y.rsp.code, .slice ea en ec] : List Value).length), w6.cell? ((⟨b7, 0, none⟩ : Addr).add j_) = some ([.int .i64 y.who, .int .i64 y.n, .int .i64 y.rsp.id, .int .i64 y.rsp.code, .slice ea en ec] : List Value)[j_] := fun j_ hj_ => by
                    rw [add_plain, Nat.zero_add]; exact hc7 j_ hj_
                   have hzn2 : zn <= 2000000 := by have := HB6.out.tv.nz; omega
                   clear hR hI hst g1 g7 hc7 s4 s5 q0 q1 q2 q3 q4 HB5 HUy
                   refine wpList_appendT (k := 3) (cs := [.int .i64 y.who, .int .i64 y.n, .int .i64 y.rsp.id, .int .i64 y.rsp.code, .slice ea en ec]) rfl _ _ 56 64 i0 (.agg #[.int .i64 0, .int .i64 0, .int .i64 0, .int .i64 0, .slice none 0 0]) 56 rfl Try.underlying56 ki kz0 kz1 kz2 rfl (by decide) rfl rfl HB6.out.th HB6.out.tv.td rfl HUz.out hcell (by simp [Value.oneCell']) hzn2 ?_
                   intro ao' cap' T7 w7 t7 st7 hA7
                   have HB7 := Lib.hid (HB6.out.step HC.out t7 st7)
                   have HA7 := Lib.hid hA7
                   have hzn7 : zn + 1 <= m + 1 := by have := HB7.out.tv.nz; omega
                   clear t7 st7 hA7 hcell HB6 HUz
                   have s5 := HB7.out.s5
                   have fs5 := HB7.out.fs 5
                   go_upto_region 24 with fail
                   obtain ⟨w8, hw8⟩ : ∃ z, z = w7.setCell ⟨bs + 1, 5, none⟩ (.slice ao' (zn + 1) cap') := ⟨_, rfl⟩
                   rw [<- hw8]
                   have ch8 : Chg [bs + 1] w7 w8 := by rw [hw8]; exact store_chg _
                   have HB8 := Lib.hid (StB.box (w' := w8) (m' := m + 1) HC.out HB7.out ch8 (by rw [hw8]; exact setOther _ (by decide) HB7.out.s0) (by rw [hw8]; exact setOther _ (by decide) HB7.out.s1) (by rw [hw8]; exact setOther _ (by decide) HB7.out.s2) (by rw [hw8]; exact setOther _ (by decide) HB7.out.s3) (by rw [hw8]; exact setOther _ (by decide) HB7.out.s4) (by rw [hw8]; exact setSame _ HB7.out.s5) (fun o => by rw [hw8]; exact (World.frozen?_setCell ..).trans (HB7.out.fs o)) HB7.out.tv.wt HB7.out.tv.dn HA7.out (by have := HB7.out.tv.nx; omega) (by have := HB7.out.tv.ny; omega) hzn7)
                   clear hw8 ch8 s5 fs5 HB7 HA7
                   have s4 := HB8.out.s4
                   go_wp2_with fail
                   refine (l5Out_b (bx bs ++ L) T7 _ yn yc (zi : Int) (show yn <= 1000 by have := HB8.out.tv.ny; omega) _ HB8.out.th HB8.out.tv.dn).mono ?_
                   rintro e w9 ⟨T9, a9, m9, c9, rfl, hm9, t9, st9, hA9⟩
                   have HB9 := Lib.hid (HB8.out.step HC.out t9 st9)
                   have HA9 := Lib.hid hA9
                   have hm9b : m9 <= m + 1 := by have := HB9.out.tv.ny; omega
                   clear t9 st9 hA9 HB8 s4
                   have s4 := HB9.out.s4
                   have fs4 := HB9.out.fs 4
                   go_upto_region 25 with fail
                   obtain ⟨wa, hwa⟩ : ∃ z, z = w9.setCell ⟨bs + 1, 4, none⟩ (.slice a9 m9 c9) := ⟨_, rfl⟩
                   rw [<- hwa]
                   have cha : Chg [bs + 1] w9 wa := by rw [hwa]; exact store_chg _
                   have HBa := Lib.hid (StB.box (w' := wa) (m' := m + 1) HC.out HB9.out cha (by rw [hwa]; exact setOther _ (by decide) HB9.out.s0) (by rw [hwa]; exact setOther _ (by decide) HB9.out.s1) (by rw [hwa]; exact setOther _ (by decide) HB9.out.s2) (by rw [hwa]; exact setOther _ (by decide) HB9.out.s3) (by rw [hwa]; exact setSame _ HB9.out.s4) (by rw [hwa]; exact setOther _ (by decide) HB9.out.s5) (fun o => by rw [hwa]; exact (World.frozen?_setCell ..).trans (HB9.out.fs o)) HB9.out.tv.wt HA9.out HB9.out.tv.td HB9.out.tv.nx hm9b HB9.out.tv.nz)
                   clear hwa cha s4 fs4 HB9 HA9
                   have d0 := HBa.out.s0
                   have d1 := HBa.out.s1
                   have d2 := HBa.out.s2
                   have d3 := HBa.out.s3
                   have d4 := HBa.out.s4
                   have d5 := HBa.out.s5
                   obtain ⟨y0, r0⟩ := HBa.out.rs.2.1 0 (by omega)
                   obtain ⟨y1, r1⟩ := HBa.out.rs.2.1 1 (by omega)
                   obtain ⟨y2, r2⟩ := HBa.out.rs.2.1 2 (by omega)
                   obtain ⟨y3, r3⟩ := HBa.out.rs.2.1 3 (by omega)
                   obtain ⟨y4, r4⟩ := HBa.out.rs.2.1 4 (by omega)
                   obtain ⟨y5, r5⟩ := HBa.out.rs.2.1 5 (by omega)
                   have f0 := HBa.out.rs.2.2 0
                   have f1 := HBa.out.rs.2.2 1
                   have f2 := HBa.out.rs.2.2 2
                   have f3 := HBa.out.rs.2.2 3
                   have f4 := HBa.out.rs.2.2 4
                   have f5 := HBa.out.rs.2.2 5
                   go_wp2
                   obtain ⟨t0, t1, t2, t3, t4, t5, t6⟩ := fin6 d0 d1 d2 d3 d4 d5 r0 r1 r2 r3 r4 r5
                   have hfin := (StB.mono (m' := m + 1) HBa.out (by omega)).done (ok := true) HC.out t6 (fun _ => ⟨by omega, by omega⟩)
                   exact bodyPost_ret (by simp [results, Try.results112, go_sem, t0, t1, t2, t3, t4, t5]) rfl hfin
          · have p1 : (kd == 1) = false := by simpa using hk1
            have p2 : (kd == 2) = false := by simpa using hk2
            have p3 : (kd == 3) = false := by simpa using hk3'
            go_upto_region 26 with fail
            clear p1 p2 p3 ve0
            have d0 := HB.out.s0
            have d1 := HB.out.s1
            have d2 := HB.out.s2
            have d3 := HB.out.s3
            have d4 := HB.out.s4
            have d5 := HB.out.s5
            obtain ⟨y0, r0⟩ := HB.out.rs.2.1 0 (by omega)
            obtain ⟨y1, r1⟩ := HB.out.rs.2.1 1 (by omega)
            obtain ⟨y2, r2⟩ := HB.out.rs.2.1 2 (by omega)
            obtain ⟨y3, r3⟩ := HB.out.rs.2.1 3 (by omega)
            obtain ⟨y4, r4⟩ := HB.out.rs.2.1 4 (by omega)
            obtain ⟨y5, r5⟩ := HB.out.rs.2.1 5 (by omega)
            have f0 := HB.out.rs.2.2 0
            have f1 := HB.out.rs.2.2 1
            have f2 := HB.out.rs.2.2 2
            have f3 := HB.out.rs.2.2 3
            have f4 := HB.out.rs.2.2 4
            have f5 := HB.out.rs.2.2 5
            go_wp2
            obtain ⟨t0, t1, t2, t3, t4, t5, t6⟩ := fin6 d0 d1 d2 d3 d4 d5 r0 r1 r2 r3 r4 r5
            have hfin := (StB.mono (m' := m + 1) HB.out (by omega)).done (ok := false) HC.out t6 (fun h => by cases h)
            exact bodyPost_ret (by simp [results, Try.results112, go_sem, t0, t1, t2, t3, t4, t5]) rfl hfin
end Go.Proofs.Ytmcjklicepaiaaa
