/-
 Texts of this claim laid together: OrdS.
-/
import Derived.Test.YtaeiddoccfaheaaGreatPk44
import Derived.Test.YtaeiddoccfaheaaGreatPk39
set_option linter.unusedVariables false
set_option linter.unusedSimpArgs false
namespace Go.Proofs.YtaeiddoccfaheaaGreat
open Go.RowKit Go.ChangeShapes Go.WideShapes
structure ApI (w0 : World) (bx : Nat) (xs : List Int) (x0 x1 y0 y1 : Value) (c5 c8 c9 cs : Bool) (v5 v8 v9 : Value) (w : World) : Prop where
 bel : Chg [bx] w0 w
 r : RoomAt bx 2 w
 lit : c5 = true -> ∃ q, v5 = .slice (some ⟨q, 0, none⟩) 0 0 ∧ OwnR 1 IntC 3 w0.heap.size w (.slice (some ⟨q, 0, none⟩) 0 0) []
 own : c8 = true -> OwnR 1 IntC 3 w0.heap.size w v8 xs ∧ (c9 = true -> v9 = .agg #[y0, y1, v8])
 sd : cs = true -> w.cell? ⟨bx, 0, none⟩ = some x0 ∧ w.cell? ⟨bx, 1, none⟩ = some x1
section
variable {w0 w w' : World} {bx : Nat} {xs : List Int} {x0 x1 y0 y1 : Value} {c5 c8 c9 cs : Bool} {v5 v8 v9 : Value}
theorem ApI.below (h : ApI w0 bx xs x0 x1 y0 y1 c5 c8 c9 cs v5 v8 v9 w) (hb : Below w.heap.size w w') : ApI w0 bx xs x0 x1 y0 y1 c5 c8 c9 cs v5 v8 v9 w' :=
 ⟨h.bel.trans' (hb.chg _), h.r.below hb, fun e => by
  obtain ⟨q, e1, o⟩ := h.lit e
  exact ⟨q, e1, o.below hb⟩, fun e => ⟨(h.own e).1.below hb, (h.own e).2⟩, fun e => ⟨keep_cell hb (h.sd e).1, keep_cell hb (h.sd e).2⟩⟩
theorem ApI.start (hr : RoomAt bx 2 w0) (h5 : c5 = false) (h8 : c8 = false) (hs : cs = false) : ApI w0 bx xs x0 x1 y0 y1 c5 c8 c9 cs v5 v8 v9 w0.drew :=
 ⟨(Chg.refl _ _).drewN 1, hr.below (Below.refl _ _).drew, fun e => by simp [h5] at e, fun e => by simp [h8] at e, fun e => by simp [hs] at e⟩
theorem ApI.size (h : ApI w0 bx xs x0 x1 y0 y1 c5 c8 c9 cs v5 v8 v9 w) : w0.heap.size <= w.heap.size := h.bel.size
theorem ApI.lay (h : ApI w0 bx xs x0 x1 y0 y1 c5 c8 c9 cs v5 v8 v9 w) (hl : bx < w0.heap.size) : ApI w0 bx xs x0 x1 y0 y1 c5 c8 c9 true v5 v8 v9 ((w.setCell ⟨bx, 0, none⟩ x0).setCell ⟨bx, 1, none⟩ x1) := by
 have hc : Chg [bx] w ((w.setCell ⟨bx, 0, none⟩ x0).setCell ⟨bx, 1, none⟩ x1) := (store_chg _).trans' (store_chg _)
 obtain ⟨t0, r0⟩ := h.r.2.1 0 (by omega)
 obtain ⟨t1, r1⟩ := h.r.2.1 1 (by omega)
 refine ⟨h.bel.trans' hc, ⟨Nat.lt_of_lt_of_le h.r.1 hc.size, fun j hj => ?_, fun o => (World.frozen?_setCell ..).trans ((World.frozen?_setCell ..).trans (h.r.2.2 o))⟩, fun e => ?_, fun e => ⟨(h.own e).1.chg hc hl, (h.own e).2⟩, fun _ => ⟨put2a_0 _ _ r0, put2a_1 _ _ r1⟩⟩
 · rcases j with _ | _ | j
   · exact ⟨_, put2a_0 _ _ r0⟩
   · exact ⟨_, put2a_1 _ _ r1⟩
   · omega
 · obtain ⟨q, e1, o⟩ := h.lit e
   exact ⟨q, e1, o.chg hc hl⟩
end
def DoEnd (w : World) (id : Int) (R : DoR) (e : Ending) (w' : World) : Prop := ∃ x0 x1 y0 y1 y2 f, e = .returned (.tuple #[.agg #[x0, x1], .agg #[y0, y1, y2]]) ∧ DoN w id R x0 x1 y0 y1 y2 f w' ∧ Below w.heap.size w w'
theorem DoN.last {w0 w2 w3 w4 w5 : World} {id : Int} {R : DoR} {x0 x1 y0 y1 y2 v : Value} {f : List Nat} {b2 b3 : Nat} (h : DoN w2 id R x0 x1 y0 y1 y2 f w3) (hw : w0.heap.size <= w2.heap.size) (o : OwnR 1 IntC 3 w3.heap.size w4 v R.data) (c1 : Chg [b2] w3 w4) (c2 : Chg [b3] w4 w5) (hf : ∀ b, b ∈ f -> b3 < b) (h2 : b2 < b3) (h3 : b3 < w3.heap.size) (h5 : w2.heap.size <= w3.heap.size) :
 ∃ f', DoN w0 id R x0 x1 y0 y1 v f' w5 := by
 have hc : Chg ([b2] ++ [b3]) w3 w5 := c1.trans c2
 have hl := h.lt
 have hn : ∀ b, b ∈ f -> b ∉ [b2] ++ [b3] := fun b hb e => by have := hf b hb; simp at e; omega
 obtain ⟨fq, g1, g2, g3, g4⟩ := intRow_reads o
 have hn2 : ∀ b, b ∈ fq -> b ∉ [b3] := fun b hb e => by have := g2 b hb; simp at e; omega
 obtain ⟨f0, f1, fd, e0, e1, rfl, a0, a1, a2, nw⟩ := h
 refine ⟨f0 ++ f1 ++ fq, f0, f1, fq, e0, e1, rfl, a0.chg intR_fits hc (fun b hb => hn b (by simp [hb])), a1.chg intR_fits hc (fun b hb => hn b (by simp [hb])), g1.chg intR_fits c2 hn2, fun b hb => ?_, nodup_app (List.nodup_append.1 nw.once).1 g3 (fun b hb hb' => ?_), ?_⟩
 · rcases List.mem_append.1 hb with hb | hb
   · exact Nat.le_trans hw (nw.lo b (by simp only [List.mem_append] at hb ⊢; exact .inl hb))
   · have := g2 b hb; omega
 · have := hl b (by simp only [List.mem_append] at hb ⊢; exact .inl hb)
   have := g2 b hb'; omega
 · exact Free.app (Free.chg (fun b hb => nw.free b (by simp only [List.mem_append] at hb ⊢; exact .inl hb)) (fun b hb => hl b (by simp only [List.mem_append] at hb ⊢; exact .inl hb)) hc (fun b hb => hn b (by simp only [List.mem_append] at hb ⊢; exact .inl hb))) (g4.chg (g1.lt intR_fits) c2 hn2)
set_option maxRecDepth 100000 in
set_option maxHeartbeats 12800000 in
theorem sAtmDo_any (l : List MR) (ms hs : List Int) (r : Req) (who : Int) (vm vw vh v0 v1 : Value) (fm fw fh f0 f1 : List Nat) (hmap : mapOk l = true) (hatm : atmOk ⟨ms, hs⟩ = true) (hms : ms.length = 64) (hhs : hs.length = 6) (hw0 : 0 <= who) (hw2 : who <= 2) (hok : reqOk r = true) (w : World)
 (gm : SlR 4 mrR w l vm fm) (gw : SlR 1 intR w ms vw fw) (gh : SlR 1 intR w hs vh fh) (g0 : SlR 1 intR w r.data v0 f0) (g1 : SlR 1 intR w r.lanes v1 f1) :
 Calls Tryz.prog 26 #[vm, .agg #[vw, vh], .int .i64 who, .agg #[.int .i64 r.id, .int .i64 r.kind, .int .i64 r.addr, .int .i64 r.many, .bool r.wrap, v0, v1]] w (DoEnd w r.id (atmDo l ms hs who r)) := by
 obtain ⟨am, nm, cm, rfl⟩ := gm.form
 obtain ⟨aw, nw, cw, rfl⟩ := gw.form
 obtain ⟨ah, nh, ch, rfl⟩ := gh.form
 obtain ⟨a0, n0, c0, rfl⟩ := g0.form
 obtain ⟨a1, n1, c1, rfl⟩ := g1.form
 obtain ⟨i0, hi, hz0, hz1, hz2⟩ := info_parts infoInt
 have hd4 : (atmDo l ms hs who r).data.length <= 4 := atmDo_data4 (reqOk_facts hok)
 obtain ⟨w1, hw1⟩ : ∃ z, z = (((w.alloc (.cells #[.slice aw nw cw, .slice ah nh ch] 33)).alloc (.cells #[.int .i64 r.id, .int .i64 r.kind, .int .i64 r.addr, .int .i64 r.many, .bool r.wrap, .slice a0 n0 c0, .slice a1 n1 c1] 67)).alloc (.cells #[.slice none 0 0, .slice none 0 0] 33)).alloc (.cells #[.int .i64 0, .int .i64 0, .slice none 0 0] 63) := ⟨_, rfl⟩
 have b1 : Below w.heap.size w w1 := by rw [hw1]; exact (((below_alloc _ _).trans ((below_alloc _ _).mono (by simp))).trans ((below_alloc _ _).mono (by simp; omega))).trans ((below_alloc _ _).mono (by simp; omega))
 have z1 : w1.heap.size = w.heap.size + 1 + 1 + 1 + 1 := by rw [hw1]; simp
 have cs : ∀ j (hj : j < 2), w1.cell? ⟨w.heap.size, j, none⟩ = some ((#[.slice aw nw cw, .slice ah nh ch] : Array Value)[j]'hj) := fun j hj => by
  rw [hw1]; exact alloc_keep (alloc_keep (alloc_keep (alloc_at rfl (by simp [show j < 2 from hj])) _) _) _
 have cr : ∀ j (hj : j < 7), w1.cell? ⟨w.heap.size + 1, j, none⟩ = some ((#[.int .i64 r.id, .int .i64 r.kind, .int .i64 r.addr, .int .i64 r.many, .bool r.wrap, .slice a0 n0 c0, .slice a1 n1 c1] : Array Value)[j]'hj) := fun j hj => by
  rw [hw1]; exact alloc_keep (alloc_keep (alloc_at (by simp) (by simp [show j < 7 from hj])) _) _
 have rA : RoomAt (w.heap.size + 1 + 1) 2 w1 := by rw [hw1]; exact (room_alloc (by simp) (by simp)).below (below_alloc _ _)
 have rB : RoomAt (w.heap.size + 1 + 1 + 1) 3 w1 := by rw [hw1]; exact room_alloc (by simp) (by simp)
 have s0 : w1.cell? ⟨w.heap.size, 0, none⟩ = some (.slice aw nw cw) := cs 0 (by decide)
 have s1 : w1.cell? ⟨w.heap.size, 1, none⟩ = some (.slice ah nh ch) := cs 1 (by decide)
 have k0 : w1.cell? ⟨w.heap.size + 1, 0, none⟩ = some (.int .i64 r.id) := cr 0 (by decide)
 have k1 : w1.cell? ⟨w.heap.size + 1, 1, none⟩ = some (.int .i64 r.kind) := cr 1 (by decide)
 have k2 : w1.cell? ⟨w.heap.size + 1, 2, none⟩ = some (.int .i64 r.addr) := cr 2 (by decide)
 have k3 : w1.cell? ⟨w.heap.size + 1, 3, none⟩ = some (.int .i64 r.many) := cr 3 (by decide)
 have k4 : w1.cell? ⟨w.heap.size + 1, 4, none⟩ = some (.bool r.wrap) := cr 4 (by decide)
 have k5 : w1.cell? ⟨w.heap.size + 1, 5, none⟩ = some (.slice a0 n0 c0) := cr 5 (by decide)
 have k6 : w1.cell? ⟨w.heap.size + 1, 6, none⟩ = some (.slice a1 n1 c1) := cr 6 (by decide)
 have GM := Lib.hid (SlR.below mrR_fits gm b1)
 have GW := Lib.hid (SlR.below intR_fits gw b1)
 have GH := Lib.hid (SlR.below intR_fits gh b1)
 have G0 := Lib.hid (SlR.below intR_fits g0 b1)
 have G1 := Lib.hid (SlR.below intR_fits g1 b1)
 have HB := Lib.hid b1
 have RA := Lib.hid rA
 have RB := Lib.hid rB
 have Q0 := Lib.hid hmap
 have Q1 := Lib.hid hatm
 have Q2 : Hid (inB who 0 2 = true) := Lib.hid (inB_true.2 ⟨hw0, hw2⟩)
 have Q3 := Lib.hid hok
 have HMS := Lib.hid hms
 have HHS := Lib.hid hhs
 have HFT := Lib.hid (reqOk_fit hok)
 have HD4 := Lib.hid hd4
 clear gm gw gh g0 g1 b1 cs cr rA rB hmap hatm hok hms hhs hd4
 go_enter Tryz.func26, Tryz.ntmps26
 go_upto_region 1 with fail
 rw [<- hw1]
 clear hw1
 go_upto_region 3 with (first
  | (go_at_call 49; refine (sMapOk_any _ l fm _ GM.out).mono ?_; rw [Q0.out]; rintro e w2 ⟨rfl, b2⟩; replace s0 := keep_cell b2 s0; replace s1 := keep_cell b2 s1; replace k0 := keep_cell b2 k0; replace k1 := keep_cell b2 k1; replace k2 := keep_cell b2 k2; replace k3 := keep_cell b2 k3; replace k4 := keep_cell b2 k4; replace k5 := keep_cell b2 k5; replace k6 := keep_cell b2 k6; replace GM := Lib.hid (SlR.below mrR_fits GM.out b2); replace GW := Lib.hid (SlR.below intR_fits GW.out b2); replace GH := Lib.hid (SlR.below intR_fits GH.out b2); replace G0 := Lib.hid (SlR.below intR_fits G0.out b2); replace G1 := Lib.hid (SlR.below intR_fits G1.out b2); replace HB := Lib.hid (HB.out.trans (b2.mono HB.out.size)); replace RA := Lib.hid (RA.out.below b2); replace RB := Lib.hid (RB.out.below b2); clear b2)
  | (go_at_call 53; refine (sAtmOk_any ⟨ms, hs⟩ _ _ fw fh _ GW.out GH.out).mono ?_; rw [Q1.out]; rintro e w2 ⟨rfl, b2⟩; replace s0 := keep_cell b2 s0; replace s1 := keep_cell b2 s1; replace k0 := keep_cell b2 k0; replace k1 := keep_cell b2 k1; replace k2 := keep_cell b2 k2; replace k3 := keep_cell b2 k3; replace k4 := keep_cell b2 k4; replace k5 := keep_cell b2 k5; replace k6 := keep_cell b2 k6; replace GM := Lib.hid (SlR.below mrR_fits GM.out b2); replace GW := Lib.hid (SlR.below intR_fits GW.out b2); replace GH := Lib.hid (SlR.below intR_fits GH.out b2); replace G0 := Lib.hid (SlR.below intR_fits G0.out b2); replace G1 := Lib.hid (SlR.below intR_fits G1.out b2); replace HB := Lib.hid (HB.out.trans (b2.mono HB.out.size)); replace RA := Lib.hid (RA.out.below b2); replace RB := Lib.hid (RB.out.below b2); clear b2)
  | (go_at_call 25; refine (l1In_v Q2.out _).mono ?_; rintro e w2 ⟨rfl, rfl⟩)
  | (go_at_call 54; refine (sReqOk_any r _ _ f0 f1 _ G0.out G1.out).mono ?_; rw [Q3.out]; rintro e w2 ⟨rfl, b2⟩; replace s0 := keep_cell b2 s0; replace s1 := keep_cell b2 s1; replace k0 := keep_cell b2 k0; replace k1 := keep_cell b2 k1; replace k2 := keep_cell b2 k2; replace k3 := keep_cell b2 k3; replace k4 := keep_cell b2 k4; replace k5 := keep_cell b2 k5; replace k6 := keep_cell b2 k6; replace GM := Lib.hid (SlR.below mrR_fits GM.out b2); replace GW := Lib.hid (SlR.below intR_fits GW.out b2); replace GH := Lib.hid (SlR.below intR_fits GH.out b2); replace G0 := Lib.hid (SlR.below intR_fits G0.out b2); replace G1 := Lib.hid (SlR.below intR_fits G1.out b2); replace HB := Lib.hid (HB.out.trans (b2.mono HB.out.size)); replace RA := Lib.hid (RA.out.below b2); replace RB := Lib.hid (RB.out.below b2); clear b2))
 have hk : ∀ (wa wb : World) (j_ : Nat) (y_ : Value), facts [FEq (.slice am nm cm), FEq (.agg #[.slice aw nw cw, .slice ah nh ch]), FAny, FEq (.int .i64 who), FEq (.agg #[.int .i64 r.id, .int .i64 r.kind, .int .i64 r.addr, .int .i64 r.many, .bool r.wrap, .slice a0 n0 c0, .slice a1 n1 c1]), FAny, FAny, FAny, FAny, FAny, FAny, FAny] j_ y_ wa -> facts [FEq (.slice am nm cm), FEq (.agg #[.slice aw nw cw, .slice ah nh ch]), FAny, FEq (.int .i64 who), FEq (.agg #[.int .i64 r.id, .int .i64 r.kind, .int .i64 r.addr, .int .i64 r.many, .bool r.wrap, .slice a0 n0 c0, .slice a1 n1 c1]), FAny, FAny, FAny, FAny, FAny, FAny, FAny] j_ y_ wb := fun wa wb j_ y_ h => by
  rcases j_ with _ | _ | _ | _ | _ | _ | _ | _ | _ | _ | _ | _ | j_ <;> exact h
 refine wp_region_tail7 (by kernel_rfl) (fun i => ([[], [], [1], [], [], [0, 1, 2, 3, 4], [0, 1, 2, 3, 4, 5], [0, 1, 2, 3, 4, 5, 6], [0, 1, 2, 3, 4, 5, 6], [], [], [0, 1, 2, 3, 4, 5, 6, 7, 9, 10], [0, 1, 2, 3, 4, 5, 6, 7, 8, 9, 10, 11]] : List (List Nat)).getD i []) (facts [FEq (.slice am nm cm), FEq (.agg #[.slice aw nw cw, .slice ah nh ch]), FAny, FEq (.int .i64 who), FEq (.agg #[.int .i64 r.id, .int .i64 r.kind, .int .i64 r.addr, .int .i64 r.many, .bool r.wrap, .slice a0 n0 c0, .slice a1 n1 c1]), FAny, FAny, FAny, FAny, FAny, FAny, FAny]) (fun ls u n_ w' => TupI w2 ms hs r.id (atmDo l ms hs who r) ⟨ls 2, ls 5, ls 6, ls 7, ls 8, ls 9, ls 10, ls 11, u 2, u 5, u 6, u 7, u 8, u 9, u 10⟩ w') 51 13 12 [some 33, some 34, some 35, some 36, some 37, some 38, some 32, some 39, some 40, some 10, some 11, none] _ rfl rfl (by decide) rfl rfl (by kernel_rfl) (by kernel_rfl) [] (by kernel_rfl) (fun g b hm v w h => by simp at hm) ?h0 (all_lt (n := 12) ?hop) ?hend
 case h0 => exact fun ls u hl => TupI.start (hl 2) (hl 5) (hl 6) (hl 7) (hl 8) (hl 9) (hl 10) (hl 11)
 case hop =>
  refine ⟨⟨⟨⟨⟨⟨⟨⟨⟨⟨⟨⟨trivial, ?_⟩, ?_⟩, ?_⟩, ?_⟩, ?_⟩, ?_⟩, ?_⟩, ?_⟩, ?_⟩, ?_⟩, ?_⟩, ?_⟩
  · refine Owes7.mk _ rfl rfl (fun _ _ h => by cases h) fun u n_ w' hm ls hI hli hld hlT hR => ⟨⟨(frm 51 [(0, .slice am nm cm)]).toArray, []⟩, rfl, fun d hd => by cases hd; exact frm_lt (by decide), ?_⟩
    dsimp only [frm, List.foldl, List.replicate, List.set]
    have HI := Lib.hid hI
    clear hI hR hld hlT
    go_wp2
    exact ⟨rfl, _, rfl, rfl, HI.out, fun j_ y_ _ _ hx => hk _ _ j_ y_ hx⟩
  · refine Owes7.mk _ rfl rfl (fun _ _ h => by cases h) fun u n_ w' hm ls hI hli hld hlT hR => ⟨⟨(frm 51 [(5, .pointer (some ⟨w.heap.size, 0, none⟩))]).toArray, []⟩, rfl, fun d hd => by cases hd; exact frm_lt (by decide), ?_⟩
    dsimp only [frm, List.foldl, List.replicate, List.set]
    have z_s0 := keep_cell hI.bel s0
    have z_s1 := keep_cell hI.bel s1
    have HI := Lib.hid hI
    clear hI hR hld hlT
    go_wp2
    exact ⟨rfl, _, rfl, rfl, HI.out, fun j_ y_ _ _ hx => hk _ _ j_ y_ hx⟩
  · refine Owes7.mk _ rfl rfl (fun _ _ h => by cases h) fun u n_ w' hm ls hI hli hld hlT hR => ⟨⟨(frm 51 [(34, u 1)]).toArray, []⟩, rfl, fun d hd => by cases hd; exact frm_lt (by decide), ?_⟩
    dsimp only [frm, List.foldl, List.replicate, List.set]
    have ev1 : u 1 = _ := hR 1 (by decide)
    rw [ev1]
    have l5 : ls 5 = false := by
     cases e : ls 5 with
     | false => rfl
     | true => have := hld 5 e 2 (by decide); rw [hli] at this; cases this
    have GWx := Lib.hid (SlR.below intR_fits GW.out hI.bel)
    have GHx := Lib.hid (SlR.below intR_fits GH.out hI.bel)
    have HI := Lib.hid hI
    have L2 := Lib.hid hli
    have L5 := Lib.hid l5
    clear hI hR hli hld hlT l5
    go_wp2_with fail
    refine (l4Copy_n ms hs _ _ fw fh (by rw [HMS.out]; decide) (by rw [HHS.out]; decide) (by rw [HHS.out]; decide) _ GWx.out GHx.out).mono ?_
    rintro e w7 ⟨v7, f7, rfl, s7, b7⟩
    have HH := Lib.hid (HI.out.copy L2.out L5.out b7 s7)
    clear b7 s7
    go_wp2
    exact ⟨rfl, _, rfl, trivial, HH.out, fun j_ y_ _ _ hx => hk _ _ j_ y_ hx⟩
  · refine Owes7.mk _ rfl rfl (fun _ _ h => by cases h) fun u n_ w' hm ls hI hli hld hlT hR => ⟨⟨(frm 51 [(2, .int .i64 who)]).toArray, []⟩, rfl, fun d hd => by cases hd; exact frm_lt (by decide), ?_⟩
    dsimp only [frm, List.foldl, List.replicate, List.set]
    have HI := Lib.hid hI
    clear hI hR hld hlT
    go_wp2
    exact ⟨rfl, _, rfl, rfl, HI.out, fun j_ y_ _ _ hx => hk _ _ j_ y_ hx⟩
  · refine Owes7.mk _ rfl rfl (fun _ _ h => by cases h) fun u n_ w' hm ls hI hli hld hlT hR => ⟨⟨(frm 51 [(7, .pointer (some ⟨w.heap.size + 1, 0, none⟩))]).toArray, []⟩, rfl, fun d hd => by cases hd; exact frm_lt (by decide), ?_⟩
    dsimp only [frm, List.foldl, List.replicate, List.set]
    have z_k0 := keep_cell hI.bel k0
    have z_k1 := keep_cell hI.bel k1
    have z_k2 := keep_cell hI.bel k2
    have z_k3 := keep_cell hI.bel k3
    have z_k4 := keep_cell hI.bel k4
    have z_k5 := keep_cell hI.bel k5
    have z_k6 := keep_cell hI.bel k6
    have HI := Lib.hid hI
    clear hI hR hld hlT
    go_wp2
    exact ⟨rfl, _, rfl, rfl, HI.out, fun j_ y_ _ _ hx => hk _ _ j_ y_ hx⟩
  · refine Owes7.mk _ rfl rfl (fun _ _ h => by cases h) fun u n_ w' hm ls hI hli hld hlT hR => ⟨⟨(frm 51 [(33, u 0), (35, u 2), (36, u 3), (37, u 4)]).toArray, []⟩, rfl, fun d hd => by cases hd; exact frm_lt (by decide), ?_⟩
    dsimp only [frm, List.foldl, List.replicate, List.set]
    have ev0 : u 0 = _ := hR 0 (by decide)
    have ev3 : u 3 = _ := hR 3 (by decide)
    have ev4 : u 4 = _ := hR 4 (by decide)
    rw [ev0, ev3, ev4]
    have l6 : ls 6 = false := by
     cases e : ls 6 with
     | false => rfl
     | true => have := hld 6 e 5 (by decide); rw [hli] at this; cases this
    have l7 : ls 7 = false := by
     cases e : ls 7 with
     | false => rfl
     | true => have := hld 7 e 5 (by decide); rw [hli] at this; cases this
    have l8 : ls 8 = false := by
     cases e : ls 8 with
     | false => rfl
     | true => have := hld 8 e 5 (by decide); rw [hli] at this; cases this
    have l11 : ls 11 = false := by
     cases e : ls 11 with
     | false => rfl
     | true => have := hld 11 e 5 (by decide); rw [hli] at this; cases this
    obtain ⟨a, a', n, c, n', c', fw2, fh2, e2, r0, r1, nw, hT⟩ := hI.done (hlT 2 (by decide)) hli l6 l7 l8 l11
    have e2 : u 2 = _ := e2
    dsimp only at hT
    rw [e2] at hT
    rw [e2]
    have HT := Lib.hid hT
    have HR0 := Lib.hid r0
    have HR1 := Lib.hid r1
    have NW := Lib.hid nw
    have GMx := Lib.hid (SlR.below mrR_fits GM.out hI.bel)
    have G0x := Lib.hid (SlR.below intR_fits G0.out hI.bel)
    have G1x := Lib.hid (SlR.below intR_fits G1.out hI.bel)
    have DJ : Hid (∀ b, b ∈ fw2 -> b ∉ fh2) := Lib.hid fun b hb hb' => (List.nodup_append.1 NW.out.once).2.2 b hb b hb' rfl
    have NM : Hid (∀ b, b ∈ fm -> b ∉ fw2 ++ fh2) := Lib.hid fun b hb hm => by have := NW.out.lo b hm; have := GM.out.lt mrR_fits b hb; omega
    have N0 : Hid (∀ b, b ∈ f0 -> b ∉ fw2 ++ fh2) := Lib.hid fun b hb hm => by have := NW.out.lo b hm; have := G0.out.lt intR_fits b hb; omega
    have N1 : Hid (∀ b, b ∈ f1 -> b ∉ fw2 ++ fh2) := Lib.hid fun b hb hm => by have := NW.out.lo b hm; have := G1.out.lt intR_fits b hb; omega
    clear hI hR hli hld hlT hT r0 r1 nw e2 l6 l7 l8 l11
    go_wp2_with fail
    refine (l4Do_any l ms hs r who _ _ _ _ _ fm fw2 fh2 f0 f1 HMS.out HHS.out hw0 hw2 HFT.out _ GMx.out HR0.out HR1.out G0x.out G1x.out NW.out.free DJ.out NM.out N0.out N1.out).mono ?_
    rintro e w6 ⟨dv, fd, rfl, g1, g2, g3, gn, gc, gf⟩
    have HH := Lib.hid (HT.out dv fd w6 g1 g2 g3 gn gc gf)
    clear g1 g2 g3 gn gc gf
    go_wp2
    exact ⟨rfl, _, rfl, trivial, HH.out, fun j_ y_ _ _ hx => hk _ _ j_ y_ hx⟩
  · refine Owes7.mk _ rfl rfl (fun _ _ h => by cases h) fun u n_ w' hm ls hI hli hld hlT hR => ⟨⟨(frm 51 [(38, u 5)]).toArray, []⟩, rfl, fun d hd => by cases hd; exact frm_lt (by decide), ?_⟩
    dsimp only [frm, List.foldl, List.replicate, List.set]
    have HH := Lib.hid (hI.move (hlT 5 (by decide)))
    clear hI hR hli hld hlT
    go_wp2
    exact ⟨rfl, _, rfl, trivial, HH.out, fun j_ y_ _ _ hx => hk _ _ j_ y_ hx⟩
  · refine Owes7.mk _ rfl rfl (fun _ _ h => by cases h) fun u n_ w' hm ls hI hli hld hlT hR => ⟨⟨(frm 51 [(32, u 6)]).toArray, []⟩, rfl, fun d hd => by cases hd; exact frm_lt (by decide), ?_⟩
    dsimp only [frm, List.foldl, List.replicate, List.set]
    obtain ⟨x0, x1, y0, y1, y2, e6, hX, hY⟩ := hI.tup (hlT 6 (by decide))
    have e6 : u 6 = _ := e6
    dsimp only at hX
    rw [e6] at hX
    rw [e6]
    have HH := Lib.hid hX
    clear hI hR hli hld hlT hX hY e6
    go_wp2
    exact ⟨rfl, _, rfl, trivial, HH.out, fun j_ y_ _ _ hx => hk _ _ j_ y_ hx⟩
  · refine Owes7.mk _ rfl rfl (fun _ _ h => by cases h) fun u n_ w' hm ls hI hli hld hlT hR => ⟨⟨(frm 51 [(32, u 6)]).toArray, []⟩, rfl, fun d hd => by cases hd; exact frm_lt (by decide), ?_⟩
    dsimp only [frm, List.foldl, List.replicate, List.set]
    obtain ⟨x0, x1, y0, y1, y2, e6, hX, hY⟩ := hI.tup (hlT 6 (by decide))
    have e6 : u 6 = _ := e6
    dsimp only at hY
    rw [e6] at hY
    rw [e6]
    have HH := Lib.hid hY
    clear hI hR hli hld hlT hX hY e6
    go_wp2
    exact ⟨rfl, _, rfl, trivial, HH.out, fun j_ y_ _ _ hx => hk _ _ j_ y_ hx⟩
  · refine Owes7.mk _ rfl rfl (fun _ _ h => by cases h) fun u n_ w' hm ls hI hli hld hlT hR => ⟨⟨(frm 51 []).toArray, []⟩, rfl, fun d hd => by cases hd; exact frm_lt (by decide), ?_⟩
    dsimp only [frm, List.foldl, List.replicate, List.set]
    have l11 : ls 11 = false := by
     cases e : ls 11 with
     | false => rfl
     | true => have := hld 11 e 9 (by decide); rw [hli] at this; cases this
    have ba := below_alloc w' (.cells #[.slice none 0 0, .slice none 0 0] 33)
    have HH := Lib.hid (hI.boxA hli l11 ba (room_alloc rfl (by simp)))
    clear hI hR hli hld hlT ba l11
    go_wp2
    exact ⟨rfl, _, rfl, trivial, HH.out, fun j_ y_ _ _ hx => hk _ _ j_ y_ hx⟩
  · refine Owes7.mk _ rfl rfl (fun _ _ h => by cases h) fun u n_ w' hm ls hI hli hld hlT hR => ⟨⟨(frm 51 []).toArray, []⟩, rfl, fun d hd => by cases hd; exact frm_lt (by decide), ?_⟩
    dsimp only [frm, List.foldl, List.replicate, List.set]
    have ba := below_alloc w' (.cells #[.int .i64 0, .int .i64 0, .slice none 0 0] 63)
    have HH := Lib.hid (hI.boxB hli ba (room_alloc rfl (by simp)))
    clear hI hR hli hld hlT ba
    go_wp2
    exact ⟨rfl, _, rfl, trivial, HH.out, fun j_ y_ _ _ hx => hk _ _ j_ y_ hx⟩
  · refine Owes7.mk _ rfl rfl (fun _ _ h => by cases h) fun u n_ w' hm ls hI hli hld hlT hR => ⟨⟨(frm 51 [(10, u 9), (39, u 7)]).toArray, []⟩, rfl, fun d hd => (by cases hd), ?_⟩
    dsimp only [frm, List.foldl, List.replicate, List.set]
    obtain ⟨xa, ya, xn, xc, yn, yc, p, e7, e9, hr, hH⟩ := hI.lay (hlT 5 (by decide)) (hlT 7 (by decide)) (hlT 9 (by decide))
    have e7 : u 7 = _ := e7
    have e9 : u 9 = _ := e9
    obtain ⟨t0, r0⟩ := hr.2.1 0 (by omega)
    obtain ⟨t1, r1⟩ := hr.2.1 1 (by omega)
    have q0 := hr.2.2 0
    have q1 := hr.2.2 1
    dsimp only at hH
    rw [e7, e9] at hH
    rw [e7, e9]
    have HH := Lib.hid hH
    clear hI hR hli hld hlT hH e7 e9 hr
    go_wp2
    exact ⟨rfl, undef, rfl, trivial, HH.out, fun j_ y_ _ _ hx => hk _ _ j_ y_ hx⟩
 case hend =>
  intro ls u w' hls hI hR
  simp only [setAll, List.set_cons_zero, List.set_cons_succ]
  obtain ⟨f, x0, x1, y0, y1, y2, p, q, e9, e10, e8, hd, p0, p1, hq, npf, nqf, npq, hp, hq', hpl⟩ := hI.fin (hls 5 (by decide)) (hls 8 (by decide)) (hls 11 (by decide)) (hls 10 (by decide))
  have e9 : u 9 = _ := e9
  have e10 : u 10 = _ := e10
  have e8 : u 8 = _ := e8
  obtain ⟨⟨xa, xn, xc, rfl⟩, ⟨ya, yn, yc, rfl⟩, ⟨da, dn, dc, rfl⟩⟩ := hd.forms
  have hdd := hd
  obtain ⟨-, -, -, rfl, rfl, -⟩ := hdd
  rw [e8, e9, e10]
  obtain ⟨t0, r0⟩ := hq.2.1 0 (by omega)
  obtain ⟨t1, r1⟩ := hq.2.1 1 (by omega)
  obtain ⟨t2, r2⟩ := hq.2.1 2 (by omega)
  have q0 := hq.2.2 0
  have q1 := hq.2.2 1
  have q2 := hq.2.2 2
  have HDN := Lib.hid hd
  have HPL := Lib.hid hpl
  have P0 := Lib.hid p0
  have P1 := Lib.hid p1
  have NPF := Lib.hid npf
  have NQF := Lib.hid nqf
  have NPQ := Lib.hid npq
  have HP := Lib.hid hp
  have HQ := Lib.hid hq'
  have HBI := Lib.hid hI.bel
  clear hI hR hls hk e8 e9 e10 hd p0 p1 hq npf nqf npq hp hq' hpl s0 s1 k0 k1 k2 k3 k4 k5 k6
  go_upto_region 4 with fail
  obtain ⟨w3, hw3⟩ : ∃ z, z = ((w'.setCell ⟨q, 0, none⟩ (.int .i64 r.id)).setCell ⟨q, 1, none⟩ (.int .i64 (atmDo l ms hs who r).code)).setCell ⟨q, 2, none⟩ (.slice da dn dc) := ⟨_, rfl⟩
  rw [<- hw3]
  have ch3 : Chg [q] w' w3 := by rw [hw3]; exact ((store_chg _).trans' (store_chg _)).trans' (store_chg _)
  have z2 : w.heap.size + 1 + 1 + 1 + 1 <= w2.heap.size := by have := HB.out.size; have := RB.out.1; omega
  have hqb : ∀ j, j <= 3 -> w.heap.size + j ∉ [q] := fun j hj e => by have := HQ.out; simp at e; omega
  have Y0 : w3.cell? ⟨q, 0, none⟩ = some (.int .i64 r.id) := by rw [hw3]; exact setOther _ (by decide) (setOther _ (by decide) (setSame _ r0))
  have Y1 : w3.cell? ⟨q, 1, none⟩ = some (.int .i64 (atmDo l ms hs who r).code) := by rw [hw3]; exact setOther _ (by decide) (setSame _ (setOther _ (by decide) r1))
  have Y2 : w3.cell? ⟨q, 2, none⟩ = some (.slice da dn dc) := by rw [hw3]; exact setSame _ (setOther _ (by decide) (setOther _ (by decide) r2))
  have X0 : w3.cell? ⟨p, 0, none⟩ = some (.slice xa xn xc) := keep_cell_chg ch3 P0.out (by simpa using NPQ.out)
  have X1 : w3.cell? ⟨p, 1, none⟩ = some (.slice ya yn yc) := keep_cell_chg ch3 P1.out (by simpa using NPQ.out)
  have HD3 := Lib.hid (HDN.out.chg ch3 (fun b hb e => by simp at e; subst e; exact NQF.out hb))
  have RA3 : Hid (RoomAt (w.heap.size + 1 + 1) 2 w3) := Lib.hid ((RA.out.below HBI.out).chg_off (Nat.lt_of_lt_of_le RA.out.1 HBI.out.size) ch3 (hqb 2 (by omega)))
  have RB3 : Hid (RoomAt (w.heap.size + 1 + 1 + 1) 3 w3) := Lib.hid ((RB.out.below HBI.out).chg_off (Nat.lt_of_lt_of_le RB.out.1 HBI.out.size) ch3 (hqb 3 (by omega)))
  have HB3 : Hid (Below w.heap.size w w3) := Lib.hid ((((HB.out.trans (HBI.out.mono HB.out.size)).chg [q]).trans' ch3).home (fun b hb => by have := HQ.out; simp at hb; omega))
  have NP : p ∉ [w.heap.size + 1 + 1] := by have := HP.out; simp; omega
  have NQ : q ∉ [w.heap.size + 1 + 1] := by have := HQ.out; simp; omega
  have NF : Hid (∀ b, b ∈ f -> w.heap.size + 1 + 1 + 1 < b) := Lib.hid fun b hb => by obtain ⟨_, _, _, -, -, rfl, -, -, -, nw⟩ := HDN.out; have := nw.lo b hb; omega
  have BL3 : w.heap.size + 1 + 1 < w3.heap.size := RA3.out.1
  have HZ23 : Hid (w2.heap.size <= w3.heap.size) := Lib.hid (Nat.le_trans HBI.out.size ch3.size)
  clear hw3 ch3 r0 r1 r2 q0 q1 q2 hqb HDN P0 P1 HBI
  have hk : ∀ (wa wb : World) (j_ : Nat) (y_ : Value), facts [FEq (.agg #[.slice xa xn xc, .slice ya yn yc]), FEq (.pointer (some ⟨q, 0, none⟩)), FEq (.int .i64 r.id), FEq (.pointer (some ⟨q, 1, none⟩)), FEq (.int .i64 (atmDo l ms hs who r).code), FAny, FEq (.pointer (some ⟨q, 2, none⟩)), FEq (.slice da dn dc), FAny, FAny, FAny] j_ y_ wa -> facts [FEq (.agg #[.slice xa xn xc, .slice ya yn yc]), FEq (.pointer (some ⟨q, 0, none⟩)), FEq (.int .i64 r.id), FEq (.pointer (some ⟨q, 1, none⟩)), FEq (.int .i64 (atmDo l ms hs who r).code), FAny, FEq (.pointer (some ⟨q, 2, none⟩)), FEq (.slice da dn dc), FAny, FAny, FAny] j_ y_ wb := fun wa wb j_ y_ h => by
   rcases j_ with _ | _ | _ | _ | _ | _ | _ | _ | _ | _ | _ | j_ <;> exact h
  refine wp_region_tail7 (by kernel_rfl) (fun i => ([[], [], [1], [], [3], [], [], [6], [5, 6, 7], [1, 2, 3, 4, 5, 6, 7, 8], [0, 5, 6, 7, 8], [0, 1, 2, 3, 4, 5, 6, 7, 8, 9, 10]] : List (List Nat)).getD i []) (facts [FEq (.agg #[.slice xa xn xc, .slice ya yn yc]), FEq (.pointer (some ⟨q, 0, none⟩)), FEq (.int .i64 r.id), FEq (.pointer (some ⟨q, 1, none⟩)), FEq (.int .i64 (atmDo l ms hs who r).code), FAny, FEq (.pointer (some ⟨q, 2, none⟩)), FEq (.slice da dn dc), FAny, FAny, FAny]) (fun ls u n_ w' => ApI w3 (w.heap.size + 1 + 1) (atmDo l ms hs who r).data (.slice xa xn xc) (.slice ya yn yc) (.int .i64 r.id) (.int .i64 (atmDo l ms hs who r).code) (ls 5) (ls 8) (ls 9) (ls 10) (u 5) (u 8) (u 9) w') 51 12 11 [some 41, some 42, some 43, some 44, some 45, some 46, some 47, some 48, some 49, some 50, none] _ rfl rfl (by decide) rfl rfl (by kernel_rfl) (by kernel_rfl) [] (by kernel_rfl) (fun g b hm v w h => by simp at hm) ?h0 (all_lt (n := 11) ?hop) ?hend
  case h0 => exact fun ls u hl => ApI.start RA3.out (hl 5) (hl 8) (hl 10)
  case hop =>
   refine ⟨⟨⟨⟨⟨⟨⟨⟨⟨⟨⟨trivial, ?_⟩, ?_⟩, ?_⟩, ?_⟩, ?_⟩, ?_⟩, ?_⟩, ?_⟩, ?_⟩, ?_⟩, ?_⟩
   · refine Owes7.mk _ rfl rfl (fun _ _ h => by cases h) fun u n_ w' hm ls hI hli hld hlT hR => ⟨⟨(frm 51 [(10, .pointer (some ⟨p, 0, none⟩))]).toArray, []⟩, rfl, fun d hd => by cases hd; exact frm_lt (by decide), ?_⟩
     dsimp only [frm, List.foldl, List.replicate, List.set]
     have z_X0 := keep_cell_chg hI.bel X0 NP
     have z_X1 := keep_cell_chg hI.bel X1 NP
     have HI := Lib.hid hI
     clear hI hR hld hlT
     go_wp2
     exact ⟨rfl, _, rfl, rfl, HI.out, fun j_ y_ _ _ hx => hk _ _ j_ y_ hx⟩
   · refine Owes7.mk _ rfl rfl (fun _ _ h => by cases h) fun u n_ w' hm ls hI hli hld hlT hR => ⟨⟨(frm 51 [(11, .pointer (some ⟨q, 0, none⟩))]).toArray, []⟩, rfl, fun d hd => by cases hd; exact frm_lt (by decide), ?_⟩
     dsimp only [frm, List.foldl, List.replicate, List.set]
     have HI := Lib.hid hI
     clear hI hR hld hlT
     go_wp2
     exact ⟨rfl, _, rfl, rfl, HI.out, fun j_ y_ _ _ hx => hk _ _ j_ y_ hx⟩
   · refine Owes7.mk _ rfl rfl (fun _ _ h => by cases h) fun u n_ w' hm ls hI hli hld hlT hR => ⟨⟨(frm 51 [(42, u 1)]).toArray, []⟩, rfl, fun d hd => by cases hd; exact frm_lt (by decide), ?_⟩
     dsimp only [frm, List.foldl, List.replicate, List.set]
     have z_Y0 := keep_cell_chg hI.bel Y0 NQ
     have ev1 : u 1 = _ := hR 1 (by decide)
     rw [ev1]
     have HI := Lib.hid hI
     clear hI hR hld hlT ev1
     go_wp2
     exact ⟨rfl, _, rfl, rfl, HI.out, fun j_ y_ _ _ hx => hk _ _ j_ y_ hx⟩
   · refine Owes7.mk _ rfl rfl (fun _ _ h => by cases h) fun u n_ w' hm ls hI hli hld hlT hR => ⟨⟨(frm 51 [(11, .pointer (some ⟨q, 0, none⟩))]).toArray, []⟩, rfl, fun d hd => by cases hd; exact frm_lt (by decide), ?_⟩
     dsimp only [frm, List.foldl, List.replicate, List.set]
     have HI := Lib.hid hI
     clear hI hR hld hlT
     go_wp2
     exact ⟨rfl, _, rfl, rfl, HI.out, fun j_ y_ _ _ hx => hk _ _ j_ y_ hx⟩
   · refine Owes7.mk _ rfl rfl (fun _ _ h => by cases h) fun u n_ w' hm ls hI hli hld hlT hR => ⟨⟨(frm 51 [(44, u 3)]).toArray, []⟩, rfl, fun d hd => by cases hd; exact frm_lt (by decide), ?_⟩
     dsimp only [frm, List.foldl, List.replicate, List.set]
     have z_Y1 := keep_cell_chg hI.bel Y1 NQ
     have ev3 : u 3 = _ := hR 3 (by decide)
     rw [ev3]
     have HI := Lib.hid hI
     clear hI hR hld hlT ev3
     go_wp2
     exact ⟨rfl, _, rfl, rfl, HI.out, fun j_ y_ _ _ hx => hk _ _ j_ y_ hx⟩
   · refine Owes7.mk _ rfl rfl (fun _ _ h => by cases h) fun u n_ w' hm ls hI hli hld hlT hR => ⟨⟨(frm 51 []).toArray, []⟩, rfl, fun d hd => by cases hd; exact frm_lt (by decide), ?_⟩
     dsimp only [frm, List.foldl, List.replicate, List.set]
     have hH := hI.below (below_alloc w' (.cells #[] 3))
     have HH : Hid (ApI w3 (w.heap.size + 1 + 1) (atmDo l ms hs who r).data (.slice xa xn xc) (.slice ya yn yc) (.int .i64 r.id) (.int .i64 (atmDo l ms hs who r).code) true (ls 8) (ls 9) (ls 10) (.slice (some ⟨w'.heap.size, 0, none⟩) 0 0) (u 8) (u 9) (w'.alloc (.cells #[] 3))) := Lib.hid ⟨hH.bel, hH.r, fun _ => ⟨_, rfl, OwnR.lit w' #[] 0 [] IntC_len rfl rfl hI.size (Nat.zero_le _)⟩, hH.own, hH.sd⟩
     clear hI hR hli hld hlT hH
     go_wp2
     exact ⟨rfl, _, rfl, trivial, HH.out, fun j_ y_ _ _ hx => hk _ _ j_ y_ hx⟩
   · refine Owes7.mk _ rfl rfl (fun _ _ h => by cases h) fun u n_ w' hm ls hI hli hld hlT hR => ⟨⟨(frm 51 [(11, .pointer (some ⟨q, 0, none⟩))]).toArray, []⟩, rfl, fun d hd => by cases hd; exact frm_lt (by decide), ?_⟩
     dsimp only [frm, List.foldl, List.replicate, List.set]
     have HI := Lib.hid hI
     clear hI hR hld hlT
     go_wp2
     exact ⟨rfl, _, rfl, rfl, HI.out, fun j_ y_ _ _ hx => hk _ _ j_ y_ hx⟩
   · refine Owes7.mk _ rfl rfl (fun _ _ h => by cases h) fun u n_ w' hm ls hI hli hld hlT hR => ⟨⟨(frm 51 [(47, u 6)]).toArray, []⟩, rfl, fun d hd => by cases hd; exact frm_lt (by decide), ?_⟩
     dsimp only [frm, List.foldl, List.replicate, List.set]
     have z_Y2 := keep_cell_chg hI.bel Y2 NQ
     have ev6 : u 6 = _ := hR 6 (by decide)
     rw [ev6]
     have HI := Lib.hid hI
     clear hI hR hld hlT ev6
     go_wp2
     exact ⟨rfl, _, rfl, rfl, HI.out, fun j_ y_ _ _ hx => hk _ _ j_ y_ hx⟩
   · refine Owes7.mk _ rfl rfl (fun _ _ h => by cases h) fun u n_ w' hm ls hI hli hld hlT hR => ⟨⟨(frm 51 [(46, u 5), (48, u 7)]).toArray, []⟩, rfl, fun d hd => by cases hd; exact frm_lt (by decide), ?_⟩
     dsimp only [frm, List.foldl, List.replicate, List.set]
     have ev7 : u 7 = _ := hR 7 (by decide)
     rw [ev7]
     have l9 : ls 9 = false := by
      cases e : ls 9 with
      | false => rfl
      | true => have := hld 9 e 8 (by decide); rw [hli] at this; cases this
     obtain ⟨q5, e5, o5⟩ := hI.lit (hlT 5 (by decide))
     obtain ⟨ga, gb, gd, -, -, ef, -, -, gg, -⟩ := HD3.out
     have gg : SlR 1 (flatR IntC) w' (atmDo l ms hs who r).data (.slice da dn dc) gd := gg.chg intR_fits hI.bel (fun b hb e => by have := NF.out b (by simp [ef, hb]); simp at e; omega)
     rw [e5]
     refine wpList_append_lit (K := 1) (c := IntC) (news := (atmDo l ms hs who r).data) rfl _ _ 23 3 i0 (.int .i64 0) 8 IntC_len rfl Tryz.underlying23 hi hz0 hz1 hz2 rfl (by decide) (by decide) rfl rfl o5 gg hI.size (by have h3 := gg; have h4 := HD4.out; obtain ⟨_, _, _, e, h, _⟩ := h3; simp only [Value.slice.injEq] at e; omega) ?_
     intro v' w2' ho hb
     have hH := hI.below hb
     exact ⟨rfl, _, rfl, trivial, ⟨hH.bel, hH.r, fun _ => ⟨q5, rfl, o5.below hb⟩, fun _ => ⟨ho, fun e => by have e : ls 9 = true := e; rw [l9] at e; cases e⟩, hH.sd⟩, fun j_ y_ _ _ hx => hk _ _ j_ y_ hx⟩
   · refine Owes7.mk _ rfl rfl (fun _ _ h => by cases h) fun u n_ w' hm ls hI hli hld hlT hR => ⟨⟨(frm 51 [(43, u 2), (45, u 4), (49, u 8)]).toArray, []⟩, rfl, fun d hd => by cases hd; exact frm_lt (by decide), ?_⟩
     dsimp only [frm, List.foldl, List.replicate, List.set]
     have ev2 : u 2 = _ := hR 2 (by decide)
     have ev4 : u 4 = _ := hR 4 (by decide)
     rw [ev2, ev4]
     obtain ⟨va, vn, vc, e8, -⟩ := (hI.own (hlT 8 (by decide))).1.slice
     have hO := (hI.own (hlT 8 (by decide))).1
     have HH : Hid (ApI w3 (w.heap.size + 1 + 1) (atmDo l ms hs who r).data (.slice xa xn xc) (.slice ya yn yc) (.int .i64 r.id) (.int .i64 (atmDo l ms hs who r).code) (ls 5) (ls 8) true (ls 10) (u 5) (u 8) (.agg #[.int .i64 r.id, .int .i64 (atmDo l ms hs who r).code, .slice va vn vc]) w') := Lib.hid ⟨hI.bel, hI.r, hI.lit, fun _ => ⟨hO, fun _ => by rw [e8]⟩, hI.sd⟩
     rw [e8] at HH
     rw [e8]
     clear hI hR hli hld hlT hO e8
     go_wp2
     exact ⟨rfl, _, rfl, trivial, HH.out, fun j_ y_ _ _ hx => hk _ _ j_ y_ hx⟩
   · refine Owes7.mk _ rfl rfl (fun _ _ h => by cases h) fun u n_ w' hm ls hI hli hld hlT hR => ⟨⟨(frm 51 [(8, .pointer (some ⟨w.heap.size + 1 + 1, 0, none⟩)), (41, u 0)]).toArray, []⟩, rfl, fun d hd => (by cases hd), ?_⟩
     dsimp only [frm, List.foldl, List.replicate, List.set]
     have ev0 : u 0 = _ := hR 0 (by decide)
     rw [ev0]
     have hH := hI.lay BL3
     obtain ⟨t0, r0⟩ := hI.r.2.1 0 (by omega)
     obtain ⟨t1, r1⟩ := hI.r.2.1 1 (by omega)
     have q0 := hI.r.2.2 0
     have q1 := hI.r.2.2 1
     have HH := Lib.hid hH
     clear hI hR hli hld hlT hH
     go_wp2
     exact ⟨rfl, undef, rfl, trivial, HH.out, fun j_ y_ _ _ hx => hk _ _ j_ y_ hx⟩
  case hend =>
   intro ls u w' hls hI hR
   simp only [setAll, List.set_cons_zero, List.set_cons_succ]
   obtain ⟨o8, e9⟩ := hI.own (hls 8 (by decide))
   obtain ⟨va, vn, vc, e8, -⟩ := o8.slice
   have e9 := e9 (hls 9 (by decide))
   obtain ⟨m0, m1⟩ := hI.sd (hls 10 (by decide))
   rw [e8] at o8 e9
   rw [e9]
   have nb : w.heap.size + 1 + 1 + 1 ∉ [w.heap.size + 1 + 1] := by simp
   have hB := RB3.out.chg_off RB3.out.1 hI.bel nb
   obtain ⟨t0, r0⟩ := hB.2.1 0 (by omega)
   obtain ⟨t1, r1⟩ := hB.2.1 1 (by omega)
   obtain ⟨t2, r2⟩ := hB.2.1 2 (by omega)
   have q0 := hB.2.2 0
   have q1 := hB.2.2 1
   have q2 := hB.2.2 2
   have HO := Lib.hid o8
   have HCH := Lib.hid hI.bel
   clear hI hR hls hk e8 e9 o8 hB nb X0 X1 Y0 Y1 Y2
   go_wp2
   obtain ⟨t0', t1', t2', t3'⟩ := fin3 (.int .i64 r.id) (.int .i64 (atmDo l ms hs who r).code) (.slice va vn vc) r0 r1 r2
   have nq : w.heap.size + 1 + 1 ∉ [w.heap.size + 1 + 1 + 1] := by simp
   have q0f := keep_cell_chg t3' m0 nq
   have q1f := keep_cell_chg t3' m1 nq
   refine bodyPost_ret (v := .tuple #[.agg #[.slice xa xn xc, .slice ya yn yc], .agg #[.int .i64 r.id, .int .i64 (atmDo l ms hs who r).code, .slice va vn vc]]) (by simp [results, Tryz.results26, go_sem, t0', t1', t2', q0f, q1f]) rfl ?_
   obtain ⟨f', hf'⟩ := HD3.out.last HB.out.size HO.out HCH.out t3' NF.out (by omega) RB3.out.1 (by have := HP.out; have := HQ.out; exact HZ23.out)
   exact ⟨_, _, _, _, _, f', rfl, hf', ((((HB3.out.chg [w.heap.size + 1 + 1]).trans' HCH.out).trans (t3')).home (fun b hb => by simp at hb; omega))⟩
end Go.Proofs.YtaeiddoccfaheaaGreat
