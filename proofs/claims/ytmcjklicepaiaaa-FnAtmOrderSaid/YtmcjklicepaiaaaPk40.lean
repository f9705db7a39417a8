/-
 Texts of this claim laid together: OrdJ OrdC OrdT.
-/
import Derived.Test.YtmcjklicepaiaaaPk38
import Derived.Test.YtmcjklicepaiaaaPk39
import Derived.Test.YtmcjklicepaiaaaPk18
import Derived.Test.YtmcjklicepaiaaaPk22
import Derived.Test.YtmcjklicepaiaaaPk08
set_option linter.unusedVariables false
set_option linter.unusedSimpArgs false
namespace Go.Proofs.Ytmcjklicepaiaaa
open Go.RowKit Go.ChangeShapes Go.WideShapes
structure IoI (w5 : World) (vw vh : Value) (fw fh : List Nat) (S : Atm × List Job) (v : Value) (wr : World) : Prop where
 ch : Chg (fw ++ fh) w5 wr
 mem : SlR 1 intR wr S.1.mem vw fw
 hol : SlR 1 intR wr S.1.holds vh fh
 fr : Free (fw ++ fh) wr
 own : OwnE 5 jobR 64 w5.heap.size wr v S.2
section
variable {w5 wr wa : World} {vw vh v : Value} {fw fh : List Nat} {S : Atm × List Job}
theorem IoI.lt (h : IoI w5 vw vh fw fh S v wr) : ∀ b, b ∈ fw ++ fh -> b < wr.heap.size := fun b hb => (List.mem_append.1 hb).elim (h.mem.lt intR_fits b) (h.hol.lt intR_fits b)
theorem IoI.below (h : IoI w5 vw vh fw fh S v wr) (hb : Below wr.heap.size wr wa) : IoI w5 vw vh fw fh S v wa :=
 ⟨h.ch.trans' (hb.chg _), SlR.below intR_fits h.mem hb, SlR.below intR_fits h.hol hb, h.fr.below h.lt hb, OwnE.below jobR_fits h.own hb⟩
end
structure TelI (w0 : World) (id : Int) (R : DoR) (who nn : Int) (vw vh : Value) (fw fh : List Nat) (ms hs : List Int) (c19 c20 c21 : Bool) (v19 v20 v21 : Value) (w : World) : Prop where
 bel : Chg (fw ++ fh) w0 w
 fr : Free (fw ++ fh) w
 lt : ∀ b, b ∈ fw ++ fh -> b < w.heap.size
 pre : c19 = false -> SlR 1 intR w ms vw fw ∧ SlR 1 intR w hs vh fh
 post : c19 = true -> ∃ (a : Option Addr) (n c : Nat) (fd : List Nat), v19 = .agg #[.int .i64 id, .int .i64 R.code, .slice a n c] ∧ SlR 1 intR w R.mem vw fw ∧ SlR 1 intR w R.holds vh fh ∧ SlR 1 intR w R.data (.slice a n c) fd ∧ New fd w0 w ∧ (∀ b, b ∈ fd -> b ∉ fw ++ fh) ∧
  (c20 = true -> v20 = .agg #[.int .i64 who, .int .i64 nn, .int .i64 id, .int .i64 R.code, .slice a n c]) ∧
  (c21 = true -> ∃ q, v21 = .slice (some ⟨q, 0, none⟩) 1 1 ∧ q ∉ fw ++ fh ∧ ∀ j (hj : j < 5), w.cell? ⟨q, j, none⟩ = some ([.int .i64 who, .int .i64 nn, .int .i64 id, .int .i64 R.code, .slice a n c][j]'hj))
section
variable {w0 w w' : World} {id : Int} {R : DoR} {who nn : Int} {vw vh : Value} {fw fh : List Nat} {ms hs : List Int} {c19 c20 c21 : Bool} {v19 v20 v21 : Value}
theorem TelI.below (h : TelI w0 id R who nn vw vh fw fh ms hs c19 c20 c21 v19 v20 v21 w) (hb : Below w.heap.size w w') : TelI w0 id R who nn vw vh fw fh ms hs c19 c20 c21 v19 v20 v21 w' :=
 ⟨h.bel.trans' (hb.chg _), h.fr.below h.lt hb, fun b hm => Nat.lt_of_lt_of_le (h.lt b hm) hb.size, fun e => ⟨SlR.below intR_fits (h.pre e).1 hb, SlR.below intR_fits (h.pre e).2 hb⟩, fun e => by
  obtain ⟨a, n, c, fd, e1, g0, g1, g2, nw, na, e20, e21⟩ := h.post e
  refine ⟨a, n, c, fd, e1, SlR.below intR_fits g0 hb, SlR.below intR_fits g1 hb, SlR.below intR_fits g2 hb, nw.later (g2.lt intR_fits) (hb.chg []), na, e20, fun e => ?_⟩
  obtain ⟨q, e2, hq, hc⟩ := e21 e
  exact ⟨q, e2, hq, fun j hj => keep_cell hb (hc j hj)⟩⟩
theorem TelI.start (h0 : SlR 1 intR w0 ms vw fw) (h1 : SlR 1 intR w0 hs vh fh) (hf : Free (fw ++ fh) w0) (h19 : c19 = false) : TelI w0 id R who nn vw vh fw fh ms hs c19 c20 c21 v19 v20 v21 w0.drew := by
 have hl : ∀ b, b ∈ fw ++ fh -> b < w0.heap.size := fun b hb => (List.mem_append.1 hb).elim (h0.lt intR_fits b) (h1.lt intR_fits b)
 have hb : Below w0.heap.size w0 w0.drew := (Below.refl _ _).drew
 exact ⟨hb.chg _, hf.below hl hb, fun b hm => Nat.lt_of_lt_of_le (hl b hm) hb.size, fun _ => ⟨SlR.below intR_fits h0 hb, SlR.below intR_fits h1 hb⟩, fun e => by rw [h19] at e; cases e⟩
theorem TelI.call {a : Option Addr} {n c : Nat} {fd : List Nat} (h : TelI w0 id R who nn vw vh fw fh ms hs c19 c20 c21 v19 v20 v21 w) (h20 : c20 = false) (h21 : c21 = false) (g0 : SlR 1 intR w' R.mem vw fw) (g1 : SlR 1 intR w' R.holds vh fh) (g2 : SlR 1 intR w' R.data (.slice a n c) fd) (nd : New fd w w') (hc : Chg (fw ++ fh) w w') (fr : Free (fw ++ fh) w') :
 TelI w0 id R who nn vw vh fw fh ms hs true c20 c21 (.agg #[.int .i64 id, .int .i64 R.code, .slice a n c]) v20 v21 w' :=
 ⟨h.bel.trans' hc, fr, fun b hm => Nat.lt_of_lt_of_le (h.lt b hm) hc.size, fun e => by (cases e), fun _ => ⟨a, n, c, fd, rfl, g0, g1, g2, ⟨fun b hb => Nat.le_trans h.bel.size (nd.lo b hb), nd.once, nd.free⟩, fun b hb hm => by have := nd.lo b hb; have := h.lt b hm; omega, fun e => by (rw [h20] at e; cases e), fun e => by (rw [h21] at e; cases e)⟩⟩
theorem TelI.told (h : TelI w0 id R who nn vw vh fw fh ms hs c19 c20 c21 v19 v20 v21 w) (h19 : c19 = true) (h21 : c21 = false) : ∃ (a : Option Addr) (n c : Nat), v19 = .agg #[.int .i64 id, .int .i64 R.code, .slice a n c] ∧ TelI w0 id R who nn vw vh fw fh ms hs c19 true c21 v19 (.agg #[.int .i64 who, .int .i64 nn, .int .i64 id, .int .i64 R.code, .slice a n c]) v21 w := by
 obtain ⟨a, n, c, fd, e1, g0, g1, g2, nw, na, e20, e21⟩ := h.post h19
 exact ⟨a, n, c, e1, h.bel, h.fr, h.lt, h.pre, fun _ => ⟨a, n, c, fd, e1, g0, g1, g2, nw, na, fun _ => rfl, fun e => by (rw [h21] at e; cases e)⟩⟩
theorem TelI.laid (h : TelI w0 id R who nn vw vh fw fh ms hs c19 c20 c21 v19 v20 v21 w) (h19 : c19 = true) (h20 : c20 = true) : ∃ (a : Option Addr) (n c : Nat), v20 = .agg #[.int .i64 who, .int .i64 nn, .int .i64 id, .int .i64 R.code, .slice a n c] ∧
 TelI w0 id R who nn vw vh fw fh ms hs c19 c20 true v19 v20 (.slice (some ⟨w.heap.size, 0, none⟩) 1 1) (w.alloc (.cells #[.int .i64 who, .int .i64 nn, .int .i64 id, .int .i64 R.code, .slice a n c] 64)) := by
 obtain ⟨a, n, c, fd, e1, g0, g1, g2, nw, na, e20, e21⟩ := h.post h19
 have hb := below_alloc w (.cells #[.int .i64 who, .int .i64 nn, .int .i64 id, .int .i64 R.code, .slice a n c] 64)
 have k := h.below hb
 refine ⟨a, n, c, e20 h20, k.bel, k.fr, k.lt, k.pre, fun _ => ⟨a, n, c, fd, e1, SlR.below intR_fits g0 hb, SlR.below intR_fits g1 hb, SlR.below intR_fits g2 hb, nw.later (g2.lt intR_fits) (hb.chg []), na, e20, fun _ => ⟨_, rfl, fun hm => by have := h.lt _ hm; omega, fun j hj => alloc1_new _ _ _ j ?_⟩⟩⟩
 rw [<- Array.getElem?_toList]
 exact List.getElem?_eq_getElem hj
end
end Go.Proofs.Ytmcjklicepaiaaa
namespace Go.Proofs.Ytmcjklicepaiaaa
open Go.RowKit Go.ChangeShapes Go.WideShapes
def AtmN (w0 : World) (ms hs : List Int) (v : Value) (f : List Nat) (w : World) : Prop := ∃ (a a' : Option Addr) (n c n' c' : Nat) (f0 f1 : List Nat), v = .agg #[.slice a n c, .slice a' n' c'] ∧ f = f0 ++ f1 ∧ SlR 1 intR w ms (.slice a n c) f0 ∧ SlR 1 intR w hs (.slice a' n' c') f1 ∧ New (f0 ++ f1) w0 w
theorem AtmN.chg {w0 w w' : World} {ms hs : List Int} {v : Value} {f fq : List Nat} (h : AtmN w0 ms hs v f w) (hc : Chg fq w w') (hn : ∀ b, b ∈ f -> b ∉ fq) : AtmN w0 ms hs v f w' := by
 obtain ⟨a, a', n, c, n', c', f0, f1, rfl, rfl, g0, g1, nw⟩ := h
 refine ⟨a, a', n, c, n', c', f0, f1, rfl, rfl, g0.chg intR_fits hc (fun b hb => hn b (by simp [hb])), g1.chg intR_fits hc (fun b hb => hn b (by simp [hb])), nw.lo, nw.once, nw.free.chg (fun b hb => ?_) hc hn⟩
 exact (List.mem_append.1 hb).elim (g0.lt intR_fits b) (g1.lt intR_fits b)
theorem AtmN.below {w0 w w' : World} {ms hs : List Int} {v : Value} {f : List Nat} (h : AtmN w0 ms hs v f w) (hb : Below w.heap.size w w') : AtmN w0 ms hs v f w' := h.chg (hb.chg []) (fun _ _ => by simp)
structure CpI (w0 : World) (ms hs : List Int) (c2 c3 c6 c7 : Bool) (v2 v3 v6 v7 : Value) (w : World) : Prop where
 bel : Below w0.heap.size w0 w
 m : c2 = true -> ∃ a n c f, v2 = .agg #[.slice a n c] ∧ SlR 1 intR w ms (.slice a n c) f ∧ New f w0 w
 l : c3 = true -> ∃ q, v3 = .slice (some ⟨q, 0, none⟩) 0 0
 p : c6 = true -> ∃ a n c a' n' c' f, v2 = .agg #[.slice a n c] ∧ v6 = .slice a' n' c' ∧ AtmN w0 ms hs (.agg #[.slice a n c, .slice a' n' c']) f w ∧ (c7 = true -> v7 = .agg #[.slice a n c, .slice a' n' c'])
theorem CpI.below {w0 w w' : World} {ms hs : List Int} {c2 c3 c6 c7 : Bool} {v2 v3 v6 v7 : Value} (h : CpI w0 ms hs c2 c3 c6 c7 v2 v3 v6 v7 w) (hb : Below w.heap.size w w') : CpI w0 ms hs c2 c3 c6 c7 v2 v3 v6 v7 w' :=
 ⟨h.bel.trans (hb.mono h.bel.size), fun e => by
  obtain ⟨a, n, c, f, e1, g, nw⟩ := h.m e
  exact ⟨a, n, c, f, e1, SlR.below intR_fits g hb, nw.later (g.lt intR_fits) (hb.chg [])⟩, h.l, fun e => by
  obtain ⟨a, n, c, a', n', c', f, e1, e2, g, e3⟩ := h.p e
  exact ⟨a, n, c, a', n', c', f, e1, e2, g.below hb, e3⟩⟩
theorem CpI.start {w0 : World} {ms hs : List Int} {c2 c3 c6 c7 : Bool} {v2 v3 v6 v7 : Value} (h2 : c2 = false) (h3 : c3 = false) (h6 : c6 = false) : CpI w0 ms hs c2 c3 c6 c7 v2 v3 v6 v7 w0.drew :=
 ⟨(Below.refl _ _).drew, fun e => by simp [h2] at e, fun e => by simp [h3] at e, fun e => by simp [h6] at e⟩
theorem AtmN.of {w0 w1 w2 : World} {ms hs : List Int} {a : Option Addr} {n c : Nat} {f : List Nat} {v : Value} (b1 : Below w0.heap.size w0 w1) (g : SlR 1 intR w1 ms (.slice a n c) f) (nw : New f w0 w1) (b2 : Below w1.heap.size w1 w2) (o : OwnR 1 IntC 3 w1.heap.size w2 v hs) :
 ∃ a' n' c' f, v = .slice a' n' c' ∧ AtmN w0 ms hs (.agg #[.slice a n c, .slice a' n' c']) f w2 := by
 obtain ⟨fq, g1, g2, g3, g4⟩ := intRow_reads o
 obtain ⟨a', n', c', rfl⟩ := g1.form
 refine ⟨a', n', c', f ++ fq, rfl, a, a', n, c, n', c', f, fq, rfl, rfl, SlR.below intR_fits g b2, g1, fun b hb => (List.mem_append.1 hb).elim (nw.lo b) (fun hb => Nat.le_trans b1.size (g2 b hb)), nodup_app nw.once g3 (fun b hb hb' => by have := g.lt intR_fits b hb; have := g2 b hb'; omega), ?_⟩
 exact (nw.later (g.lt intR_fits) (b2.chg [])).free.app g4
set_option maxRecDepth 100000 in
set_option maxHeartbeats 3200000 in
theorem l4Copy_n (ms hs : List Int) (v0 v1 : Value) (f0 f1 : List Nat) (h0 : ms.length <= 1000) (h1 : 0 < hs.length) (h1' : hs.length <= 1000) (w : World) (g0 : SlR 1 intR w ms v0 f0) (g1 : SlR 1 intR w hs v1 f1) :
 Calls Try.prog 134 #[.agg #[v0, v1]] w fun e w' => ∃ v f, e = .returned v ∧ AtmN w ms hs v f w' ∧ Below w.heap.size w w' := by
 obtain ⟨a0, n0, c0, rfl⟩ := g0.form
 obtain ⟨a1, n1, c1, rfl⟩ := g1.form
 obtain ⟨i0, hi, hz0, hz1, hz2⟩ := info_parts infoInt
 have hn1 : hs.length = n1 := by
  have h' := g1
  obtain ⟨_, _, _, e, h2, _⟩ := h'
  cases e; exact h2
 obtain ⟨w0, hw0⟩ : ∃ z, z = (w.alloc (.cells #[.slice a0 n0 c0, .slice a1 n1 c1] 68)).alloc (.cells #[.slice none 0 0, .slice none 0 0] 68) := ⟨_, rfl⟩
 have b0 : Below w.heap.size w w0 := by rw [hw0]; exact (below_alloc _ _).trans ((below_alloc _ _).mono (by simp))
 have X0 : w0.cell? ⟨w.heap.size, 0, none⟩ = some (.slice a0 n0 c0) := by rw [hw0]; exact alloc2_old _ _ _ _ _ 0 rfl
 have X1 : w0.cell? ⟨w.heap.size, 1, none⟩ = some (.slice a1 n1 c1) := by rw [hw0]; exact alloc2_old _ _ _ _ _ 1 rfl
 have r0 : RoomAt (w.heap.size + 1) 2 w0 := by rw [hw0]; exact room_alloc (by simp) (by simp)
 have G0 := Lib.hid (SlR.below intR_fits g0 b0)
 have G1 := Lib.hid (SlR.below intR_fits g1 b0)
 have B := Lib.hid b0
 have R := Lib.hid r0
 have HM := Lib.hid h0
 clear g0 g1 b0 r0 h0
 go_enter Try.func134, Try.ntmps134
 go_upto_region 1 with fail
 rw [<- hw0]
 clear hw0
 have hk : ∀ (wa wb : World) (j_ : Nat) (y_ : Value), facts [FEq (.pointer (some ⟨w.heap.size, 0, none⟩)), FEq (.agg #[.slice a0 n0 c0]), FAny, FAny, FEq (.pointer (some ⟨w.heap.size, 1, none⟩)), FEq (.slice a1 n1 c1), FAny, FAny] j_ y_ wa -> facts [FEq (.pointer (some ⟨w.heap.size, 0, none⟩)), FEq (.agg #[.slice a0 n0 c0]), FAny, FAny, FEq (.pointer (some ⟨w.heap.size, 1, none⟩)), FEq (.slice a1 n1 c1), FAny, FAny] j_ y_ wb := fun wa wb j_ y_ h => by
  rcases j_ with _ | _ | _ | _ | _ | _ | _ | _ | j_ <;> exact h
 refine wp_region_tail7 (by kernel_rfl) (fun i => ([[], [0], [0, 1], [], [], [4], [0, 1, 2, 3, 4, 5], [0, 1, 2, 3, 4, 5, 6], [0, 1, 2, 3, 4, 5, 6, 7]] : List (List Nat)).getD i []) (facts [FEq (.pointer (some ⟨w.heap.size, 0, none⟩)), FEq (.agg #[.slice a0 n0 c0]), FAny, FAny, FEq (.pointer (some ⟨w.heap.size, 1, none⟩)), FEq (.slice a1 n1 c1), FAny, FAny]) (fun ls u n_ w' => CpI w0 ms hs (ls 2) (ls 3) (ls 6) (ls 7) (u 2) (u 3) (u 6) (u 7) w') 11 9 8 [some 3, some 4, some 5, some 6, some 7, some 8, some 9, some 10] _ rfl rfl (by decide) rfl rfl (by kernel_rfl) (by kernel_rfl) [] (by kernel_rfl) (fun g b hm v w h => by simp at hm) ?h0 (all_lt (n := 8) ?hop) ?hend
 case h0 => exact fun ls u hl => CpI.start (hl 2) (hl 3) (hl 6)
 case hop =>
  refine ⟨⟨⟨⟨⟨⟨⟨⟨trivial, ?_⟩, ?_⟩, ?_⟩, ?_⟩, ?_⟩, ?_⟩, ?_⟩, ?_⟩
  · refine Owes7.mk _ rfl rfl (fun _ _ h => by cases h) fun u n_ w' hm ls hI hli hld hlT hR => ⟨⟨(frm 11 [(1, .pointer (some ⟨w.heap.size, 0, none⟩))]).toArray, []⟩, rfl, fun d hd => by cases hd; exact frm_lt (by decide), ?_⟩
    dsimp only [frm, List.foldl, List.replicate, List.set]
    have HI := Lib.hid hI
    clear hI hR hld hlT
    go_wp2
    exact ⟨rfl, _, rfl, rfl, HI.out, fun j_ y_ _ _ hx => hk _ _ j_ y_ hx⟩
  · refine Owes7.mk _ rfl rfl (fun _ _ h => by cases h) fun u n_ w' hm ls hI hli hld hlT hR => ⟨⟨(frm 11 [(3, u 0)]).toArray, []⟩, rfl, fun d hd => by cases hd; exact frm_lt (by decide), ?_⟩
    dsimp only [frm, List.foldl, List.replicate, List.set]
    have z_X0 := keep_cell hI.bel X0
    have z_X1 := keep_cell hI.bel X1
    have ev0 : u 0 = _ := hR 0 (by decide)
    rw [ev0]
    have HI := Lib.hid hI
    clear hI hR hld hlT ev0
    go_wp2
    exact ⟨rfl, _, rfl, rfl, HI.out, fun j_ y_ _ _ hx => hk _ _ j_ y_ hx⟩
  · refine Owes7.mk _ rfl rfl (fun _ _ h => by cases h) fun u n_ w' hm ls hI hli hld hlT hR => ⟨⟨(frm 11 [(4, u 1)]).toArray, []⟩, rfl, fun d hd => by cases hd; exact frm_lt (by decide), ?_⟩
    dsimp only [frm, List.foldl, List.replicate, List.set]
    have ev1 : u 1 = _ := hR 1 (by decide)
    rw [ev1]
    have l6 : ls 6 = false := by
     cases e : ls 6 with
     | false => rfl
     | true => have := hld 6 e 2 (by decide); rw [hli] at this; cases this
    have GG := Lib.hid (SlR.below intR_fits G0.out hI.bel)
    have HI := Lib.hid hI
    have L6 := Lib.hid l6
    clear hI hR hli hld hlT l6
    go_wp2_with fail
    refine (l2Copy_b ms _ f0 HM.out _ GG.out).mono ?_
    rintro e w7 ⟨v7, f7, rfl, s7, n7, b7⟩
    obtain ⟨a7, m7, c7, rfl⟩ := s7.form
    have hH := HI.out.below b7
    have HH : Hid (CpI w0 ms hs true (ls 3) (ls 6) (ls 7) (.agg #[.slice a7 m7 c7]) (u 3) (u 6) (u 7) w7) := Lib.hid ⟨hH.bel, fun _ => ⟨a7, m7, c7, f7, rfl, s7, fun b hb => Nat.le_trans HI.out.bel.size (n7.lo b hb), n7.once, n7.free⟩, hH.l, fun e => by rw [L6.out] at e; cases e⟩
    clear hH b7 s7 n7
    go_wp2
    exact ⟨rfl, _, rfl, trivial, HH.out, fun j_ y_ _ _ hx => hk _ _ j_ y_ hx⟩
  · refine Owes7.mk _ rfl rfl (fun _ _ h => by cases h) fun u n_ w' hm ls hI hli hld hlT hR => ⟨⟨(frm 11 []).toArray, []⟩, rfl, fun d hd => by cases hd; exact frm_lt (by decide), ?_⟩
    dsimp only [frm, List.foldl, List.replicate, List.set]
    have l6 : ls 6 = false := by
     cases e : ls 6 with
     | false => rfl
     | true => have := hld 6 e 3 (by decide); rw [hli] at this; cases this
    have hH := hI.below (below_alloc w' (.cells #[] 3))
    have HH : Hid (CpI w0 ms hs (ls 2) true (ls 6) (ls 7) (u 2) (.slice (some ⟨w'.heap.size, 0, none⟩) 0 0) (u 6) (u 7) (w'.alloc (.cells #[] 3))) := Lib.hid ⟨hH.bel, hH.m, fun _ => ⟨_, rfl⟩, hH.p⟩
    clear hI hR hli hld hlT hH l6
    go_wp2
    exact ⟨rfl, _, rfl, trivial, HH.out, fun j_ y_ _ _ hx => hk _ _ j_ y_ hx⟩
  · refine Owes7.mk _ rfl rfl (fun _ _ h => by cases h) fun u n_ w' hm ls hI hli hld hlT hR => ⟨⟨(frm 11 [(1, .pointer (some ⟨w.heap.size, 0, none⟩))]).toArray, []⟩, rfl, fun d hd => by cases hd; exact frm_lt (by decide), ?_⟩
    dsimp only [frm, List.foldl, List.replicate, List.set]
    have HI := Lib.hid hI
    clear hI hR hld hlT
    go_wp2
    exact ⟨rfl, _, rfl, rfl, HI.out, fun j_ y_ _ _ hx => hk _ _ j_ y_ hx⟩
  · refine Owes7.mk _ rfl rfl (fun _ _ h => by cases h) fun u n_ w' hm ls hI hli hld hlT hR => ⟨⟨(frm 11 [(7, u 4)]).toArray, []⟩, rfl, fun d hd => by cases hd; exact frm_lt (by decide), ?_⟩
    dsimp only [frm, List.foldl, List.replicate, List.set]
    have z_X1 := keep_cell hI.bel X1
    have ev4 : u 4 = _ := hR 4 (by decide)
    rw [ev4]
    have HI := Lib.hid hI
    clear hI hR hld hlT ev4
    go_wp2
    exact ⟨rfl, _, rfl, rfl, HI.out, fun j_ y_ _ _ hx => hk _ _ j_ y_ hx⟩
  · refine Owes7.mk _ rfl rfl (fun _ _ h => by cases h) fun u n_ w' hm ls hI hli hld hlT hR => ⟨⟨(frm 11 [(6, u 3), (8, u 5)]).toArray, []⟩, rfl, fun d hd => by cases hd; exact frm_lt (by decide), ?_⟩
    dsimp only [frm, List.foldl, List.replicate, List.set]
    have ev5 : u 5 = _ := hR 5 (by decide)
    rw [ev5]
    obtain ⟨q, e3⟩ := hI.l (hlT 3 (by decide))
    obtain ⟨a7, m7, c7, f7, e2, s7, n7⟩ := hI.m (hlT 2 (by decide))
    rw [e3]
    have gg : SlR 1 (flatR IntC) w' hs (.slice a1 n1 c1) _ := SlR.below intR_fits G1.out hI.bel
    obtain ⟨B1, O1, rfl⟩ : ∃ b o, a1 = some ⟨b, o, none⟩ := by
     obtain ⟨_, _, _, e, hn, _, _, ⟨rfl, rfl⟩ | ⟨_, _, _, rfl, _⟩⟩ := gg
     · simp at h1
     · cases e; exact ⟨_, _, rfl⟩
    have l7 : ls 7 = false := by
     cases e : ls 7 with
     | false => rfl
     | true => have := hld 7 e 6 (by decide); rw [hli] at this; cases this
    refine wpList_append_empty (K := 1) (c := IntC) (news := hs) rfl _ _ 24 3 i0 (.int .i64 0) 8 IntC_len rfl Try.underlying24 hi hz0 hz1 hz2 rfl (by decide) rfl rfl hn1 (by omega) (SlR.flat_cells IntC_len (by decide) gg) (by omega) ?_
    intro v' w2 ho hb
    obtain ⟨a8, m8, c8, f8, rfl, h8⟩ := AtmN.of hI.bel s7 n7 hb ho
    have hH := hI.below hb
    exact ⟨rfl, _, rfl, trivial, ⟨hH.bel, hH.m, fun _ => ⟨q, rfl⟩, fun _ => ⟨a7, m7, c7, a8, m8, c8, f8, e2, rfl, h8, fun e => by have e : ls 7 = true := e; rw [l7] at e; cases e⟩⟩, fun j_ y_ _ _ hx => hk _ _ j_ y_ hx⟩
  · refine Owes7.mk _ rfl rfl (fun _ _ h => by cases h) fun u n_ w' hm ls hI hli hld hlT hR => ⟨⟨(frm 11 [(5, u 2), (9, u 6)]).toArray, []⟩, rfl, fun d hd => by cases hd; exact frm_lt (by decide), ?_⟩
    dsimp only [frm, List.foldl, List.replicate, List.set]
    obtain ⟨a7, m7, c7, a8, m8, c8, f8, e2, e6, h8, -⟩ := hI.p (hlT 6 (by decide))
    have HI : Hid (CpI w0 ms hs (ls 2) (ls 3) (ls 6) true (u 2) (u 3) (u 6) (.agg #[.slice a7 m7 c7, .slice a8 m8 c8]) w') := Lib.hid ⟨hI.bel, hI.m, hI.l, fun _ => ⟨a7, m7, c7, a8, m8, c8, f8, e2, e6, h8, fun _ => rfl⟩⟩
    rw [e2, e6] at HI
    rw [e2, e6]
    clear hI hR hld hlT h8 e2 e6
    go_wp2
    exact ⟨rfl, _, rfl, trivial, HI.out, fun j_ y_ _ _ hx => hk _ _ j_ y_ hx⟩
 case hend =>
  intro ls u w' hls hI hR
  simp only [setAll, List.set_cons_zero, List.set_cons_succ]
  obtain ⟨xa, xn, xc, ya, yn, yc, fx, e2, e6, h8, e7⟩ := hI.p (hls 6 (by decide))
  rw [e7 (hls 7 (by decide))]
  obtain ⟨hrs, hr, hrf⟩ := R.out.below hI.bel
  obtain ⟨u0, r0⟩ := hr 0 (by omega)
  obtain ⟨u1, r1⟩ := hr 1 (by omega)
  have q0 := hrf 0
  have q1 := hrf 1
  have H8 := Lib.hid h8
  have HBw := Lib.hid (B.out.trans (hI.bel.mono B.out.size))
  have HZ := Lib.hid R.out.1
  clear hR hk e2 e6 e7 h8 hI hls hr hrf X0 X1
  go_wp2
  have hc : Chg [w.heap.size + 1] w' ((w'.setCell ⟨w.heap.size + 1, 0, none⟩ (.slice xa xn xc)).setCell ⟨w.heap.size + 1, 1, none⟩ (.slice ya yn yc)) := (store_chg _).trans' (store_chg _)
  have hz := HZ.out
  obtain ⟨a, a', n, c, n', c', f0', f1', e8, rfl, g0', g1', nw⟩ := H8.out.chg hc (fun b hb e => by obtain ⟨_, _, _, _, _, _, _, _, _, rfl, _, _, nw⟩ := H8.out; have := nw.lo b hb; simp at e; omega)
  exact bodyPost_ret (v := .agg #[.slice xa xn xc, .slice ya yn yc]) (by simp [results, Try.results134, go_sem, put2a_0 _ _ r0, put2a_1 _ _ r1]) rfl ⟨_, _, rfl, ⟨a, a', n, c, n', c', f0', f1', e8, rfl, g0', g1', fun b hb => Nat.le_trans B.out.size (nw.lo b hb), nw.once, nw.free⟩, ((HBw.out.chg [w.heap.size + 1]).trans' hc).home (fun b hb => by simp at hb; omega)⟩
end Go.Proofs.Ytmcjklicepaiaaa
namespace Go.Proofs.Ytmcjklicepaiaaa
open Go.RowKit Go.ChangeShapes Go.WideShapes
def DoN (w0 : World) (id : Int) (R : DoR) (x0 x1 y0 y1 y2 : Value) (f : List Nat) (w : World) : Prop :=
 ∃ f0 f1 fd, y0 = .int .i64 id ∧ y1 = .int .i64 R.code ∧ f = f0 ++ f1 ++ fd ∧ SlR 1 intR w R.mem x0 f0 ∧ SlR 1 intR w R.holds x1 f1 ∧ SlR 1 intR w R.data y2 fd ∧ New (f0 ++ f1 ++ fd) w0 w
theorem DoN.lt {w0 w : World} {id : Int} {R : DoR} {x0 x1 y0 y1 y2 : Value} {f : List Nat} (h : DoN w0 id R x0 x1 y0 y1 y2 f w) : ∀ b, b ∈ f -> b < w.heap.size := by
 obtain ⟨f0, f1, fd, -, -, rfl, g0, g1, g2, -⟩ := h
 intro b hb
 simp only [List.mem_append] at hb
 rcases hb with (hb | hb) | hb
 · exact g0.lt intR_fits b hb
 · exact g1.lt intR_fits b hb
 · exact g2.lt intR_fits b hb
theorem DoN.chg {w0 w w' : World} {id : Int} {R : DoR} {x0 x1 y0 y1 y2 : Value} {f fq : List Nat} (h : DoN w0 id R x0 x1 y0 y1 y2 f w) (hc : Chg fq w w') (hn : ∀ b, b ∈ f -> b ∉ fq) : DoN w0 id R x0 x1 y0 y1 y2 f w' := by
 have hl := h.lt
 obtain ⟨f0, f1, fd, e0, e1, rfl, g0, g1, g2, nw⟩ := h
 exact ⟨f0, f1, fd, e0, e1, rfl, g0.chg intR_fits hc (fun b hb => hn b (by simp [hb])), g1.chg intR_fits hc (fun b hb => hn b (by simp [hb])), g2.chg intR_fits hc (fun b hb => hn b (by simp [hb])), nw.lo, nw.once, nw.free.chg hl hc hn⟩
theorem DoN.forms {w0 w : World} {id : Int} {R : DoR} {x0 x1 y0 y1 y2 : Value} {f : List Nat} (h : DoN w0 id R x0 x1 y0 y1 y2 f w) : (∃ a n c, x0 = .slice a n c) ∧ (∃ a n c, x1 = .slice a n c) ∧ ∃ a n c, y2 = .slice a n c := by
 obtain ⟨f0, f1, fd, -, -, -, g0, g1, g2, -⟩ := h
 exact ⟨g0.form, g1.form, g2.form⟩
theorem AtmN.lt {w0 w : World} {ms hs : List Int} {v : Value} {f : List Nat} (h : AtmN w0 ms hs v f w) : ∀ b, b ∈ f -> b < w.heap.size := by
 obtain ⟨a, a', n, c, n', c', f0, f1, rfl, rfl, g0, g1, nw⟩ := h
 exact fun b hb => (List.mem_append.1 hb).elim (g0.lt intR_fits b) (g1.lt intR_fits b)
theorem RoomAt.chg_off {p n : Nat} {w w' : World} {fq : List Nat} (h : RoomAt p n w) (hp : p < w.heap.size) (hc : Chg fq w w') (hn : p ∉ fq) : RoomAt p n w' := by
 have hb := hc.block p hp hn
 refine ⟨Nat.lt_of_lt_of_le h.1 hc.size, fun j hj => ?_, fun o => (World.frozen?_of_block hb).trans (h.2.2 o)⟩
 obtain ⟨v, hv⟩ := h.2.1 j hj
 exact ⟨v, keep_cell_chg hc hv hn⟩
structure TupS where
 c0 : Bool
 c1 : Bool
 cm : Bool
 cx : Bool
 cy : Bool
 ca : Bool
 cb : Bool
 cs : Bool
 v0 : Value
 vt : Value
 vm : Value
 vx : Value
 vy : Value
 va : Value
 vb : Value
structure TupG (w0 : World) (ms hs : List Int) (id : Int) (R : DoR) (S : TupS) (f : List Nat) (x0 x1 y0 y1 y2 : Value) (p q : Nat) (w : World) : Prop where
 bel : Below w0.heap.size w0 w
 st0 : S.c0 = true -> S.c1 = false -> AtmN w0 ms hs S.v0 f w
 st1 : S.c1 = true -> S.c0 = true ∧ S.vt = .tuple #[.agg #[x0, x1], .agg #[y0, y1, y2]] ∧ DoN w0 id R x0 x1 y0 y1 y2 f w
 mv : S.cm = true -> S.c1 = true ∧ S.vm = S.vt
 ex : S.cx = true -> S.vx = .agg #[x0, x1]
 ey : S.cy = true -> S.vy = .agg #[y0, y1, y2]
 pa : S.ca = true -> S.va = .pointer (some ⟨p, 0, none⟩) ∧ w0.heap.size <= p ∧ p < w.heap.size ∧ RoomAt p 2 w ∧ (S.c0 = true -> p ∉ f)
 qb : S.cb = true -> S.vb = .pointer (some ⟨q, 0, none⟩) ∧ w0.heap.size <= q ∧ q < w.heap.size ∧ RoomAt q 3 w ∧ (S.c0 = true -> q ∉ f) ∧ (S.ca = true -> p ≠ q)
 sd : S.cs = true -> w.cell? ⟨p, 0, none⟩ = some x0 ∧ w.cell? ⟨p, 1, none⟩ = some x1 ∧ S.ca = true
def TupI (w0 : World) (ms hs : List Int) (id : Int) (R : DoR) (S : TupS) (w : World) : Prop := ∃ f x0 x1 y0 y1 y2 p q, TupG w0 ms hs id R S f x0 x1 y0 y1 y2 p q w
variable {w0 w w' : World} {ms hs : List Int} {id : Int} {R : DoR} {S : TupS}
theorem TupI.bel (h : TupI w0 ms hs id R S w) : Below w0.heap.size w0 w := by
 obtain ⟨_, _, _, _, _, _, _, _, h⟩ := h
 exact h.bel
theorem TupI.start (h0 : S.c0 = false) (h1 : S.c1 = false) (hm : S.cm = false) (hx : S.cx = false) (hy : S.cy = false) (ha : S.ca = false) (hb : S.cb = false) (hs' : S.cs = false) : TupI w0 ms hs id R S w0.drew :=
 ⟨[], undef, undef, undef, undef, undef, 0, 0, (Below.refl _ _).drew, fun e => by simp [h0] at e, fun e => by simp [h1] at e, fun e => by simp [hm] at e, fun e => by simp [hx] at e, fun e => by simp [hy] at e, fun e => by simp [ha] at e, fun e => by simp [hb] at e, fun e => by simp [hs'] at e⟩
theorem TupG.far {f : List Nat} {x0 x1 y0 y1 y2 : Value} {p q : Nat} (h : TupG w0 ms hs id R S f x0 x1 y0 y1 y2 p q w) (hb : Below w.heap.size w w') : TupG w0 ms hs id R S f x0 x1 y0 y1 y2 p q w' :=
 ⟨h.bel.trans (hb.mono h.bel.size), fun e e' => (h.st0 e e').below hb, fun e => ⟨(h.st1 e).1, (h.st1 e).2.1, (h.st1 e).2.2.chg (hb.chg []) (fun _ _ => by simp)⟩, h.mv, h.ex, h.ey,
  fun e => ⟨(h.pa e).1, (h.pa e).2.1, Nat.lt_of_lt_of_le (h.pa e).2.2.1 hb.size, (h.pa e).2.2.2.1.below hb, (h.pa e).2.2.2.2⟩,
  fun e => ⟨(h.qb e).1, (h.qb e).2.1, Nat.lt_of_lt_of_le (h.qb e).2.2.1 hb.size, (h.qb e).2.2.2.1.below hb, (h.qb e).2.2.2.2⟩,
  fun e => ⟨keep_cell hb (h.sd e).1, keep_cell hb (h.sd e).2.1, (h.sd e).2.2⟩⟩
theorem TupI.below (h : TupI w0 ms hs id R S w) (hb : Below w.heap.size w w') : TupI w0 ms hs id R S w' := by
 obtain ⟨f, x0, x1, y0, y1, y2, p, q, h⟩ := h
 exact ⟨f, x0, x1, y0, y1, y2, p, q, h.far hb⟩
theorem TupI.copy {v : Value} {f : List Nat} (h : TupI w0 ms hs id R S w) (h0 : S.c0 = false) (h1 : S.c1 = false) (hb : Below w.heap.size w w') (ha : AtmN w ms hs v f w') : TupI w0 ms hs id R { S with c0 := true, v0 := v } w' := by
 obtain ⟨f', x0, x1, y0, y1, y2, p, q, h⟩ := h
 have k := h.far hb
 obtain ⟨a, a', n, c, n', c', f0, f1, e, rfl, g0, g1, nw⟩ := ha
 refine ⟨f0 ++ f1, x0, x1, y0, y1, y2, p, q, k.bel, fun _ _ => ⟨a, a', n, c, n', c', f0, f1, e, rfl, g0, g1, fun b hb => Nat.le_trans h.bel.size (nw.lo b hb), nw.once, nw.free⟩, fun e => ?_, k.mv, k.ex, k.ey, fun e => ⟨(k.pa e).1, (k.pa e).2.1, (k.pa e).2.2.1, (k.pa e).2.2.2.1, fun _ hm => ?_⟩, fun e => ⟨(k.qb e).1, (k.qb e).2.1, (k.qb e).2.2.1, (k.qb e).2.2.2.1, fun _ hm => ?_, (k.qb e).2.2.2.2.2⟩, k.sd⟩
 · have e : S.c1 = true := e
   rw [h1] at e; cases e
 · have := nw.lo p hm; have := (h.pa e).2.2.1; omega
 · have := nw.lo q hm; have := (h.qb e).2.2.1; omega
theorem TupI.done (h : TupI w0 ms hs id R S w) (h0 : S.c0 = true) (h1 : S.c1 = false) (hm : S.cm = false) (hx : S.cx = false) (hy : S.cy = false) (hs' : S.cs = false) :
 ∃ (a a' : Option Addr) (n c n' c' : Nat) (fw fh : List Nat), S.v0 = .agg #[.slice a n c, .slice a' n' c'] ∧ SlR 1 intR w ms (.slice a n c) fw ∧ SlR 1 intR w hs (.slice a' n' c') fh ∧ New (fw ++ fh) w0 w ∧
  ∀ (y2 : Value) (fd : List Nat) (w' : World), SlR 1 intR w' R.mem (.slice a n c) fw -> SlR 1 intR w' R.holds (.slice a' n' c') fh -> SlR 1 intR w' R.data y2 fd -> New fd w w' -> Chg (fw ++ fh) w w' -> Free (fw ++ fh) w' ->
   TupI w0 ms hs id R { S with c1 := true, vt := .tuple #[.agg #[.slice a n c, .slice a' n' c'], .agg #[.int .i64 id, .int .i64 R.code, y2]] } w' := by
 obtain ⟨f', z0, z1, z2, z3, z4, p, q, h⟩ := h
 have ha := h.st0 h0 h1
 have hl := ha.lt
 obtain ⟨a, a', n, c, n', c', fw, fh, e0, rfl, b0, b1, nw⟩ := ha
 refine ⟨a, a', n, c, n', c', fw, fh, e0, b0, b1, nw, fun y2 fd w' g0 g1 g2 nd hc fr => ?_⟩
 have hlo : ∀ b, b ∈ fw ++ fh -> w0.heap.size <= b := nw.lo
 refine ⟨fw ++ fh ++ fd, .slice a n c, .slice a' n' c', _, _, y2, p, q, ((h.bel.chg _).trans' hc).home hlo, (fun _ e => by cases e), fun _ => ⟨h0, rfl, fw, fh, fd, rfl, rfl, rfl, g0, g1, g2, fun b hb => ?_, nodup_app nw.once nd.once (fun b hb hb' => by have := hl b hb; have := nd.lo b hb'; omega), fr.app nd.free⟩, fun e => ?_, fun e => ?_, fun e => ?_, fun e => ?_, fun e => ?_, fun e => ?_⟩
 · rcases List.mem_append.1 hb with hb | hb
   · exact nw.lo b hb
   · exact Nat.le_trans h.bel.size (nd.lo b hb)
 · have e : S.cm = true := e
   rw [hm] at e; cases e
 · have e : S.cx = true := e
   rw [hx] at e; cases e
 · have e : S.cy = true := e
   rw [hy] at e; cases e
 · obtain ⟨k1, k2, k3, k4, k5⟩ := h.pa e
   refine ⟨k1, k2, Nat.lt_of_lt_of_le k3 hc.size, k4.chg_off k3 hc (k5 h0), fun _ hm => ?_⟩
   rcases List.mem_append.1 hm with hm | hm
   · exact k5 h0 hm
   · have := nd.lo p hm; omega
 · obtain ⟨k1, k2, k3, k4, k5, k6⟩ := h.qb e
   refine ⟨k1, k2, Nat.lt_of_lt_of_le k3 hc.size, k4.chg_off k3 hc (k5 h0), fun _ hm => ?_, k6⟩
   rcases List.mem_append.1 hm with hm | hm
   · exact k5 h0 hm
   · have := nd.lo q hm; omega
 · have e : S.cs = true := e
   rw [hs'] at e; cases e
theorem TupI.call {f : List Nat} {x0 x1 y0 y1 y2 : Value} (h : TupI w0 ms hs id R S w) (h0 : S.c0 = false) (h1 : S.c1 = false) (hm : S.cm = false) (hx : S.cx = false) (hy : S.cy = false) (hs' : S.cs = false) (hb : Below w.heap.size w w') (hd : DoN w id R x0 x1 y0 y1 y2 f w') :
 TupI w0 ms hs id R { S with c0 := true, c1 := true, v0 := .tuple #[.agg #[x0, x1], .agg #[y0, y1, y2]], vt := .tuple #[.agg #[x0, x1], .agg #[y0, y1, y2]] } w' := by
 obtain ⟨f', z0, z1, z2, z3, z4, p, q, h⟩ := h
 have k := h.far hb
 obtain ⟨f0, f1, fd, e0, e1, rfl, g0, g1, g2, nw⟩ := hd
 refine ⟨f0 ++ f1 ++ fd, x0, x1, y0, y1, y2, p, q, k.bel, (fun _ e => by cases e), fun _ => ⟨rfl, rfl, f0, f1, fd, e0, e1, rfl, g0, g1, g2, fun b hb => Nat.le_trans h.bel.size (nw.lo b hb), nw.once, nw.free⟩, fun e => ?_, fun e => ?_, fun e => ?_, fun e => ?_, fun e => ?_, fun e => ?_⟩
 · have e : S.cm = true := e
   rw [hm] at e; cases e
 · have e : S.cx = true := e
   rw [hx] at e; cases e
 · have e : S.cy = true := e
   rw [hy] at e; cases e
 · obtain ⟨k1, k2, k3, k4, k5⟩ := k.pa e
   exact ⟨k1, k2, k3, k4, fun _ hm => by have := nw.lo p hm; have := (h.pa e).2.2.1; omega⟩
 · obtain ⟨k1, k2, k3, k4, k5, k6⟩ := k.qb e
   exact ⟨k1, k2, k3, k4, fun _ hm => by have := nw.lo q hm; have := (h.qb e).2.2.1; omega, k6⟩
 · have e : S.cs = true := e
   rw [hs'] at e; cases e
theorem TupI.move (h : TupI w0 ms hs id R S w) (h1 : S.c1 = true) : TupI w0 ms hs id R { S with cm := true, vm := S.vt } w := by
 obtain ⟨f, x0, x1, y0, y1, y2, p, q, h⟩ := h
 exact ⟨f, x0, x1, y0, y1, y2, p, q, h.bel, h.st0, h.st1, fun _ => ⟨h1, rfl⟩, h.ex, h.ey, h.pa, h.qb, h.sd⟩
theorem TupI.tup (h : TupI w0 ms hs id R S w) (hm : S.cm = true) : ∃ x0 x1 y0 y1 y2, S.vm = .tuple #[.agg #[x0, x1], .agg #[y0, y1, y2]] ∧ TupI w0 ms hs id R { S with cx := true, vx := .agg #[x0, x1] } w ∧ TupI w0 ms hs id R { S with cy := true, vy := .agg #[y0, y1, y2] } w := by
 obtain ⟨f, x0, x1, y0, y1, y2, p, q, h⟩ := h
 obtain ⟨h1, em⟩ := h.mv hm
 obtain ⟨-, et, -⟩ := h.st1 h1
 exact ⟨x0, x1, y0, y1, y2, em.trans et, ⟨f, x0, x1, y0, y1, y2, p, q, h.bel, h.st0, h.st1, h.mv, fun _ => rfl, h.ey, h.pa, h.qb, h.sd⟩, ⟨f, x0, x1, y0, y1, y2, p, q, h.bel, h.st0, h.st1, h.mv, h.ex, fun _ => rfl, h.pa, h.qb, h.sd⟩⟩
theorem TupI.boxA (h : TupI w0 ms hs id R S w) (ha : S.ca = false) (hs' : S.cs = false) (hb : Below w.heap.size w w') (hr : RoomAt w.heap.size 2 w') : TupI w0 ms hs id R { S with ca := true, va := .pointer (some ⟨w.heap.size, 0, none⟩) } w' := by
 obtain ⟨f, x0, x1, y0, y1, y2, p, q, h⟩ := h
 have k := h.far hb
 refine ⟨f, x0, x1, y0, y1, y2, w.heap.size, q, k.bel, k.st0, k.st1, k.mv, k.ex, k.ey, fun _ => ⟨rfl, h.bel.size, hr.1, hr, fun e hm => ?_⟩, fun e => ⟨(k.qb e).1, (k.qb e).2.1, (k.qb e).2.2.1, (k.qb e).2.2.2.1, (k.qb e).2.2.2.2.1, fun _ e' => ?_⟩, fun e => ?_⟩
 · cases e1 : S.c1 with
   | false => have := (h.st0 e e1).lt _ hm; omega
   | true => have := (h.st1 e1).2.2.lt _ hm; omega
 · have := (h.qb e).2.2.1; omega
 · have e : S.cs = true := e
   rw [hs'] at e; cases e
theorem TupI.boxB (h : TupI w0 ms hs id R S w) (hb' : S.cb = false) (hb : Below w.heap.size w w') (hr : RoomAt w.heap.size 3 w') : TupI w0 ms hs id R { S with cb := true, vb := .pointer (some ⟨w.heap.size, 0, none⟩) } w' := by
 obtain ⟨f, x0, x1, y0, y1, y2, p, q, h⟩ := h
 have k := h.far hb
 refine ⟨f, x0, x1, y0, y1, y2, p, w.heap.size, k.bel, k.st0, k.st1, k.mv, k.ex, k.ey, k.pa, fun _ => ⟨rfl, h.bel.size, hr.1, hr, fun e hm => ?_, fun e e' => ?_⟩, k.sd⟩
 · cases e1 : S.c1 with
   | false => have := (h.st0 e e1).lt _ hm; omega
   | true => have := (h.st1 e1).2.2.lt _ hm; omega
 · have := (h.pa e).2.2.1; omega
theorem TupI.lay (h : TupI w0 ms hs id R S w) (h1 : S.c1 = true) (hx : S.cx = true) (ha : S.ca = true) : ∃ (a a' : Option Addr) (n c n' c' p : Nat), S.vx = .agg #[.slice a n c, .slice a' n' c'] ∧ S.va = .pointer (some ⟨p, 0, none⟩) ∧ RoomAt p 2 w ∧ TupI w0 ms hs id R { S with cs := true } ((w.setCell ⟨p, 0, none⟩ (.slice a n c)).setCell ⟨p, 1, none⟩ (.slice a' n' c')) := by
 obtain ⟨f, x0, x1, y0, y1, y2, p, q, h⟩ := h
 obtain ⟨⟨a, n, c, rfl⟩, ⟨a', n', c', rfl⟩, -⟩ := (h.st1 h1).2.2.forms
 obtain ⟨k1, k2, k3, k4, k5⟩ := h.pa ha
 have hc : Chg [p] w ((w.setCell ⟨p, 0, none⟩ (.slice a n c)).setCell ⟨p, 1, none⟩ (.slice a' n' c')) := (store_chg _).trans' (store_chg _)
 have h0 := (h.st1 h1).1
 have hpf : ∀ b, b ∈ f -> b ∉ [p] := fun b hb e => by simp at e; subst e; exact k5 h0 hb
 obtain ⟨t0, r0⟩ := k4.2.1 0 (by omega)
 obtain ⟨t1, r1⟩ := k4.2.1 1 (by omega)
 refine ⟨a, a', n, c, n', c', p, h.ex hx, k1, k4, f, _, _, y0, y1, y2, p, q, ((h.bel.chg _).trans' hc).home (fun b hb => by simp at hb; omega), fun _ e => ?_, fun e => ⟨h0, (h.st1 e).2.1, (h.st1 e).2.2.chg hc hpf⟩, h.mv, h.ex, h.ey, fun e => ⟨k1, k2, Nat.lt_of_lt_of_le k3 hc.size, ?_, k5⟩, fun e => ?_, fun _ => ⟨put2a_0 _ _ r0, put2a_1 _ _ r1, ha⟩⟩
 · have e : S.c1 = false := e
   rw [h1] at e; cases e
 · refine ⟨Nat.lt_of_lt_of_le k4.1 hc.size, fun j hj => ?_, fun o => (World.frozen?_setCell ..).trans ((World.frozen?_setCell ..).trans (k4.2.2 o))⟩
   rcases j with _ | _ | j
   · exact ⟨_, put2a_0 _ _ r0⟩
   · exact ⟨_, put2a_1 _ _ r1⟩
   · omega
 · obtain ⟨j1, j2, j3, j4, j5, j6⟩ := h.qb e
   exact ⟨j1, j2, Nat.lt_of_lt_of_le j3 hc.size, j4.chg_off j3 hc (fun e => by simp at e; exact j6 ha e.symm), j5, j6⟩
theorem TupI.fin (h : TupI w0 ms hs id R S w) (h1 : S.c1 = true) (hy : S.cy = true) (hs' : S.cs = true) (hb : S.cb = true) : ∃ f x0 x1 y0 y1 y2 p q, S.va = .pointer (some ⟨p, 0, none⟩) ∧ S.vb = .pointer (some ⟨q, 0, none⟩) ∧ S.vy = .agg #[y0, y1, y2] ∧ DoN w0 id R x0 x1 y0 y1 y2 f w ∧ w.cell? ⟨p, 0, none⟩ = some x0 ∧ w.cell? ⟨p, 1, none⟩ = some x1 ∧ RoomAt q 3 w ∧ p ∉ f ∧ q ∉ f ∧ p ≠ q ∧ w0.heap.size <= p ∧ w0.heap.size <= q ∧ p < w.heap.size := by
 obtain ⟨f, x0, x1, y0, y1, y2, p, q, h⟩ := h
 obtain ⟨s0, s1, ha⟩ := h.sd hs'
 obtain ⟨k1, k2, k3, k4, k5⟩ := h.pa ha
 obtain ⟨j1, j2, j3, j4, j5, j6⟩ := h.qb hb
 obtain ⟨h0, -, hd⟩ := h.st1 h1
 exact ⟨f, x0, x1, y0, y1, y2, p, q, k1, j1, h.ey hy, hd, s0, s1, j4, k5 h0, j5 h0, j6 ha, k2, j2, k3⟩
end Go.Proofs.Ytmcjklicepaiaaa
