/-
 Texts of this claim laid together: OrdT.
-/
import Derived.Test.YtaeiddoccfaheaaGreatPk43
import Derived.Test.YtaeiddoccfaheaaGreatPk32
set_option linter.unusedVariables false
set_option linter.unusedSimpArgs false
namespace Go.Proofs.YtaeiddoccfaheaaGreat
open Go.RowKit Go.ChangeShapes Go.WideShapes
def DoN (w0 : World) (id : Int) (R : DoR) (x0 x1 y0 y1 y2 : Value) (f : List Nat) (w : World) : Prop :=
 ∃ f0 f1 fd, y0 = .int .i64 id ∧ y1 = .int .i64 R.code ∧ f = f0 ++ f1 ++ fd ∧ SlR 1 intR w R.mem x0 f0 ∧ SlR 1 intR w R.holds x1 f1 ∧ SlR 1 intR w R.data y2 fd ∧ New (f0 ++ f1 ++ fd) w0 w
theorem DoN.lt {w0 w : World} {id : Int} {R : DoR} {x0 x1 y0 y1 y2 : Value} {f : List Nat} (h : DoN w0 id R x0 x1 y0 y1 y2 f w) : ∀ b, b ∈ f -> b < w.heap.size := by
 obtain ⟨f0, f1, fd, -, -, rfl, g0, g1, g2, -⟩ := h
 intro b hb
 simp only [List.mem_append] at hb
 rcases hb with (hb | hb) | hb
 · exact g0.lt intR_fits b hb
 · exact g1.lt intR_fits b hb
 · exact g2.lt intR_fits b hb
theorem DoN.chg {w0 w w' : World} {id : Int} {R : DoR} {x0 x1 y0 y1 y2 : Value} {f fq : List Nat} (h : DoN w0 id R x0 x1 y0 y1 y2 f w) (hc : Chg fq w w') (hn : ∀ b, b ∈ f -> b ∉ fq) : DoN w0 id R x0 x1 y0 y1 y2 f w' := by
 have hl := h.lt
 obtain ⟨f0, f1, fd, e0, e1, rfl, g0, g1, g2, nw⟩ := h
 exact ⟨f0, f1, fd, e0, e1, rfl, g0.chg intR_fits hc (fun b hb => hn b (by simp [hb])), g1.chg intR_fits hc (fun b hb => hn b (by simp [hb])), g2.chg intR_fits hc (fun b hb => hn b (by simp [hb])), nw.lo, nw.once, nw.free.chg hl hc hn⟩
theorem DoN.forms {w0 w : World} {id : Int} {R : DoR} {x0 x1 y0 y1 y2 : Value} {f : List Nat} (h : DoN w0 id R x0 x1 y0 y1 y2 f w) : (∃ a n c, x0 = .slice a n c) ∧ (∃ a n c, x1 = .slice a n c) ∧ ∃ a n c, y2 = .slice a n c := by
 obtain ⟨f0, f1, fd, -, -, -, g0, g1, g2, -⟩ := h
 exact ⟨g0.form, g1.form, g2.form⟩
theorem AtmN.lt {w0 w : World} {ms hs : List Int} {v : Value} {f : List Nat} (h : AtmN w0 ms hs v f w) : ∀ b, b ∈ f -> b < w.heap.size := by
 obtain ⟨a, a', n, c, n', c', f0, f1, rfl, rfl, g0, g1, nw⟩ := h
 exact fun b hb => (List.mem_append.1 hb).elim (g0.lt intR_fits b) (g1.lt intR_fits b)
theorem RoomAt.chg_off {p n : Nat} {w w' : World} {fq : List Nat} (h : RoomAt p n w) (hp : p < w.heap.size) (hc : Chg fq w w') (hn : p ∉ fq) : RoomAt p n w' := by
 have hb := hc.block p hp hn
 refine ⟨Nat.lt_of_lt_of_le h.1 hc.size, fun j hj => ?_, fun o => (World.frozen?_of_block hb).trans (h.2.2 o)⟩
 obtain ⟨v, hv⟩ := h.2.1 j hj
 exact ⟨v, keep_cell_chg hc hv hn⟩
structure TupS where
 c0 : Bool
 c1 : Bool
 cm : Bool
 cx : Bool
 cy : Bool
 ca : Bool
 cb : Bool
 cs : Bool
 v0 : Value
 vt : Value
 vm : Value
 vx : Value
 vy : Value
 va : Value
 vb : Value
structure TupG (w0 : World) (ms hs : List Int) (id : Int) (R : DoR) (S : TupS) (f : List Nat) (x0 x1 y0 y1 y2 : Value) (p q : Nat) (w : World) : Prop where
 bel : Below w0.heap.size w0 w
 st0 : S.c0 = true -> S.c1 = false -> AtmN w0 ms hs S.v0 f w
 st1 : S.c1 = true -> S.c0 = true ∧ S.vt = .tuple #[.agg #[x0, x1], .agg #[y0, y1, y2]] ∧ DoN w0 id R x0 x1 y0 y1 y2 f w
 mv : S.cm = true -> S.c1 = true ∧ S.vm = S.vt
 ex : S.cx = true -> S.vx = .agg #[x0, x1]
 ey : S.cy = true -> S.vy = .agg #[y0, y1, y2]
 pa : S.ca = true -> S.va = .pointer (some ⟨p, 0, none⟩) ∧ w0.heap.size <= p ∧ p < w.heap.size ∧ RoomAt p 2 w ∧ (S.c0 = true -> p ∉ f)
 qb : S.cb = true -> S.vb = .pointer (some ⟨q, 0, none⟩) ∧ w0.heap.size <= q ∧ q < w.heap.size ∧ RoomAt q 3 w ∧ (S.c0 = true -> q ∉ f) ∧ (S.ca = true -> p ≠ q)
 sd : S.cs = true -> w.cell? ⟨p, 0, none⟩ = some x0 ∧ w.cell? ⟨p, 1, none⟩ = some x1 ∧ S.ca = true
def TupI (w0 : World) (ms hs : List Int) (id : Int) (R : DoR) (S : TupS) (w : World) : Prop := ∃ f x0 x1 y0 y1 y2 p q, TupG w0 ms hs id R S f x0 x1 y0 y1 y2 p q w
variable {w0 w w' : World} {ms hs : List Int} {id : Int} {R : DoR} {S : TupS}
theorem TupI.bel (h : TupI w0 ms hs id R S w) : Below w0.heap.size w0 w := by
 obtain ⟨_, _, _, _, _, _, _, _, h⟩ := h
 exact h.bel
theorem TupI.start (h0 : S.c0 = false) (h1 : S.c1 = false) (hm : S.cm = false) (hx : S.cx = false) (hy : S.cy = false) (ha : S.ca = false) (hb : S.cb = false) (hs' : S.cs = false) : TupI w0 ms hs id R S w0.drew :=
 ⟨[], undef, undef, undef, undef, undef, 0, 0, (Below.refl _ _).drew, fun e => by simp [h0] at e, fun e => by simp [h1] at e, fun e => by simp [hm] at e, fun e => by simp [hx] at e, fun e => by simp [hy] at e, fun e => by simp [ha] at e, fun e => by simp [hb] at e, fun e => by simp [hs'] at e⟩
theorem TupG.far {f : List Nat} {x0 x1 y0 y1 y2 : Value} {p q : Nat} (h : TupG w0 ms hs id R S f x0 x1 y0 y1 y2 p q w) (hb : Below w.heap.size w w') : TupG w0 ms hs id R S f x0 x1 y0 y1 y2 p q w' :=
 ⟨h.bel.trans (hb.mono h.bel.size), fun e e' => (h.st0 e e').below hb, fun e => ⟨(h.st1 e).1, (h.st1 e).2.1, (h.st1 e).2.2.chg (hb.chg []) (fun _ _ => by simp)⟩, h.mv, h.ex, h.ey,
  fun e => ⟨(h.pa e).1, (h.pa e).2.1, Nat.lt_of_lt_of_le (h.pa e).2.2.1 hb.size, (h.pa e).2.2.2.1.below hb, (h.pa e).2.2.2.2⟩,
  fun e => ⟨(h.qb e).1, (h.qb e).2.1, Nat.lt_of_lt_of_le (h.qb e).2.2.1 hb.size, (h.qb e).2.2.2.1.below hb, (h.qb e).2.2.2.2⟩,
  fun e => ⟨keep_cell hb (h.sd e).1, keep_cell hb (h.sd e).2.1, (h.sd e).2.2⟩⟩
theorem TupI.below (h : TupI w0 ms hs id R S w) (hb : Below w.heap.size w w') : TupI w0 ms hs id R S w' := by
 obtain ⟨f, x0, x1, y0, y1, y2, p, q, h⟩ := h
 exact ⟨f, x0, x1, y0, y1, y2, p, q, h.far hb⟩
theorem TupI.copy {v : Value} {f : List Nat} (h : TupI w0 ms hs id R S w) (h0 : S.c0 = false) (h1 : S.c1 = false) (hb : Below w.heap.size w w') (ha : AtmN w ms hs v f w') : TupI w0 ms hs id R { S with c0 := true, v0 := v } w' := by
 obtain ⟨f', x0, x1, y0, y1, y2, p, q, h⟩ := h
 have k := h.far hb
 obtain ⟨a, a', n, c, n', c', f0, f1, e, rfl, g0, g1, nw⟩ := ha
 refine ⟨f0 ++ f1, x0, x1, y0, y1, y2, p, q, k.bel, fun _ _ => ⟨a, a', n, c, n', c', f0, f1, e, rfl, g0, g1, fun b hb => Nat.le_trans h.bel.size (nw.lo b hb), nw.once, nw.free⟩, fun e => ?_, k.mv, k.ex, k.ey, fun e => ⟨(k.pa e).1, (k.pa e).2.1, (k.pa e).2.2.1, (k.pa e).2.2.2.1, fun _ hm => ?_⟩, fun e => ⟨(k.qb e).1, (k.qb e).2.1, (k.qb e).2.2.1, (k.qb e).2.2.2.1, fun _ hm => ?_, (k.qb e).2.2.2.2.2⟩, k.sd⟩
 · have e : S.c1 = true := e
   rw [h1] at e; cases e
 · have := nw.lo p hm; have := (h.pa e).2.2.1; omega
 · have := nw.lo q hm; have := (h.qb e).2.2.1; omega
theorem TupI.done (h : TupI w0 ms hs id R S w) (h0 : S.c0 = true) (h1 : S.c1 = false) (hm : S.cm = false) (hx : S.cx = false) (hy : S.cy = false) (hs' : S.cs = false) :
 ∃ (a a' : Option Addr) (n c n' c' : Nat) (fw fh : List Nat), S.v0 = .agg #[.slice a n c, .slice a' n' c'] ∧ SlR 1 intR w ms (.slice a n c) fw ∧ SlR 1 intR w hs (.slice a' n' c') fh ∧ New (fw ++ fh) w0 w ∧
  ∀ (y2 : Value) (fd : List Nat) (w' : World), SlR 1 intR w' R.mem (.slice a n c) fw -> SlR 1 intR w' R.holds (.slice a' n' c') fh -> SlR 1 intR w' R.data y2 fd -> New fd w w' -> Chg (fw ++ fh) w w' -> Free (fw ++ fh) w' ->
   TupI w0 ms hs id R { S with c1 := true, vt := .tuple #[.agg #[.slice a n c, .slice a' n' c'], .agg #[.int .i64 id, .int .i64 R.code, y2]] } w' := by
 obtain ⟨f', z0, z1, z2, z3, z4, p, q, h⟩ := h
 have ha := h.st0 h0 h1
 have hl := ha.lt
 obtain ⟨a, a', n, c, n', c', fw, fh, e0, rfl, b0, b1, nw⟩ := ha
 refine ⟨a, a', n, c, n', c', fw, fh, e0, b0, b1, nw, fun y2 fd w' g0 g1 g2 nd hc fr => ?_⟩
 have hlo : ∀ b, b ∈ fw ++ fh -> w0.heap.size <= b := nw.lo
 refine ⟨fw ++ fh ++ fd, .slice a n c, .slice a' n' c', _, _, y2, p, q, ((h.bel.chg _).trans' hc).home hlo, (fun _ e => by cases e), fun _ => ⟨h0, rfl, fw, fh, fd, rfl, rfl, rfl, g0, g1, g2, fun b hb => ?_, nodup_app nw.once nd.once (fun b hb hb' => by have := hl b hb; have := nd.lo b hb'; omega), fr.app nd.free⟩, fun e => ?_, fun e => ?_, fun e => ?_, fun e => ?_, fun e => ?_, fun e => ?_⟩
 · rcases List.mem_append.1 hb with hb | hb
   · exact nw.lo b hb
   · exact Nat.le_trans h.bel.size (nd.lo b hb)
 · have e : S.cm = true := e
   rw [hm] at e; cases e
 · have e : S.cx = true := e
   rw [hx] at e; cases e
 · have e : S.cy = true := e
   rw [hy] at e; cases e
 · obtain ⟨k1, k2, k3, k4, k5⟩ := h.pa e
   refine ⟨k1, k2, Nat.lt_of_lt_of_le k3 hc.size, k4.chg_off k3 hc (k5 h0), fun _ hm => ?_⟩
   rcases List.mem_append.1 hm with hm | hm
   · exact k5 h0 hm
   · have := nd.lo p hm; omega
 · obtain ⟨k1, k2, k3, k4, k5, k6⟩ := h.qb e
   refine ⟨k1, k2, Nat.lt_of_lt_of_le k3 hc.size, k4.chg_off k3 hc (k5 h0), fun _ hm => ?_, k6⟩
   rcases List.mem_append.1 hm with hm | hm
   · exact k5 h0 hm
   · have := nd.lo q hm; omega
 · have e : S.cs = true := e
   rw [hs'] at e; cases e
theorem TupI.call {f : List Nat} {x0 x1 y0 y1 y2 : Value} (h : TupI w0 ms hs id R S w) (h0 : S.c0 = false) (h1 : S.c1 = false) (hm : S.cm = false) (hx : S.cx = false) (hy : S.cy = false) (hs' : S.cs = false) (hb : Below w.heap.size w w') (hd : DoN w id R x0 x1 y0 y1 y2 f w') :
 TupI w0 ms hs id R { S with c0 := true, c1 := true, v0 := .tuple #[.agg #[x0, x1], .agg #[y0, y1, y2]], vt := .tuple #[.agg #[x0, x1], .agg #[y0, y1, y2]] } w' := by
 obtain ⟨f', z0, z1, z2, z3, z4, p, q, h⟩ := h
 have k := h.far hb
 obtain ⟨f0, f1, fd, e0, e1, rfl, g0, g1, g2, nw⟩ := hd
 refine ⟨f0 ++ f1 ++ fd, x0, x1, y0, y1, y2, p, q, k.bel, (fun _ e => by cases e), fun _ => ⟨rfl, rfl, f0, f1, fd, e0, e1, rfl, g0, g1, g2, fun b hb => Nat.le_trans h.bel.size (nw.lo b hb), nw.once, nw.free⟩, fun e => ?_, fun e => ?_, fun e => ?_, fun e => ?_, fun e => ?_, fun e => ?_⟩
 · have e : S.cm = true := e
   rw [hm] at e; cases e
 · have e : S.cx = true := e
   rw [hx] at e; cases e
 · have e : S.cy = true := e
   rw [hy] at e; cases e
 · obtain ⟨k1, k2, k3, k4, k5⟩ := k.pa e
   exact ⟨k1, k2, k3, k4, fun _ hm => by have := nw.lo p hm; have := (h.pa e).2.2.1; omega⟩
 · obtain ⟨k1, k2, k3, k4, k5, k6⟩ := k.qb e
   exact ⟨k1, k2, k3, k4, fun _ hm => by have := nw.lo q hm; have := (h.qb e).2.2.1; omega, k6⟩
 · have e : S.cs = true := e
   rw [hs'] at e; cases e
theorem TupI.move (h : TupI w0 ms hs id R S w) (h1 : S.c1 = true) : TupI w0 ms hs id R { S with cm := true, vm := S.vt } w := by
 obtain ⟨f, x0, x1, y0, y1, y2, p, q, h⟩ := h
 exact ⟨f, x0, x1, y0, y1, y2, p, q, h.bel, h.st0, h.st1, fun _ => ⟨h1, rfl⟩, h.ex, h.ey, h.pa, h.qb, h.sd⟩
theorem TupI.tup (h : TupI w0 ms hs id R S w) (hm : S.cm = true) : ∃ x0 x1 y0 y1 y2, S.vm = .tuple #[.agg #[x0, x1], .agg #[y0, y1, y2]] ∧ TupI w0 ms hs id R { S with cx := true, vx := .agg #[x0, x1] } w ∧ TupI w0 ms hs id R { S with cy := true, vy := .agg #[y0, y1, y2] } w := by
 obtain ⟨f, x0, x1, y0, y1, y2, p, q, h⟩ := h
 obtain ⟨h1, em⟩ := h.mv hm
 obtain ⟨-, et, -⟩ := h.st1 h1
 exact ⟨x0, x1, y0, y1, y2, em.trans et, ⟨f, x0, x1, y0, y1, y2, p, q, h.bel, h.st0, h.st1, h.mv, fun _ => rfl, h.ey, h.pa, h.qb, h.sd⟩, ⟨f, x0, x1, y0, y1, y2, p, q, h.bel, h.st0, h.st1, h.mv, h.ex, fun _ => rfl, h.pa, h.qb, h.sd⟩⟩
theorem TupI.boxA (h : TupI w0 ms hs id R S w) (ha : S.ca = false) (hs' : S.cs = false) (hb : Below w.heap.size w w') (hr : RoomAt w.heap.size 2 w') : TupI w0 ms hs id R { S with ca := true, va := .pointer (some ⟨w.heap.size, 0, none⟩) } w' := by
 obtain ⟨f, x0, x1, y0, y1, y2, p, q, h⟩ := h
 have k := h.far hb
 refine ⟨f, x0, x1, y0, y1, y2, w.heap.size, q, k.bel, k.st0, k.st1, k.mv, k.ex, k.ey, fun _ => ⟨rfl, h.bel.size, hr.1, hr, fun e hm => ?_⟩, fun e => ⟨(k.qb e).1, (k.qb e).2.1, (k.qb e).2.2.1, (k.qb e).2.2.2.1, (k.qb e).2.2.2.2.1, fun _ e' => ?_⟩, fun e => ?_⟩
 · cases e1 : S.c1 with
   | false => have := (h.st0 e e1).lt _ hm; omega
   | true => have := (h.st1 e1).2.2.lt _ hm; omega
 · have := (h.qb e).2.2.1; omega
 · have e : S.cs = true := e
   rw [hs'] at e; cases e
theorem TupI.boxB (h : TupI w0 ms hs id R S w) (hb' : S.cb = false) (hb : Below w.heap.size w w') (hr : RoomAt w.heap.size 3 w') : TupI w0 ms hs id R { S with cb := true, vb := .pointer (some ⟨w.heap.size, 0, none⟩) } w' := by
 obtain ⟨f, x0, x1, y0, y1, y2, p, q, h⟩ := h
 have k := h.far hb
 refine ⟨f, x0, x1, y0, y1, y2, p, w.heap.size, k.bel, k.st0, k.st1, k.mv, k.ex, k.ey, k.pa, fun _ => ⟨rfl, h.bel.size, hr.1, hr, fun e hm => ?_, fun e e' => ?_⟩, k.sd⟩
 · cases e1 : S.c1 with
   | false => have := (h.st0 e e1).lt _ hm; omega
   | true => have := (h.st1 e1).2.2.lt _ hm; omega
 · have := (h.pa e).2.2.1; omega
theorem TupI.lay (h : TupI w0 ms hs id R S w) (h1 : S.c1 = true) (hx : S.cx = true) (ha : S.ca = true) : ∃ (a a' : Option Addr) (n c n' c' p : Nat), S.vx = .agg #[.slice a n c, .slice a' n' c'] ∧ S.va = .pointer (some ⟨p, 0, none⟩) ∧ RoomAt p 2 w ∧ TupI w0 ms hs id R { S with cs := true } ((w.setCell ⟨p, 0, none⟩ (.slice a n c)).setCell ⟨p, 1, none⟩ (.slice a' n' c')) := by
 obtain ⟨f, x0, x1, y0, y1, y2, p, q, h⟩ := h
 obtain ⟨⟨a, n, c, rfl⟩, ⟨a', n', c', rfl⟩, -⟩ := (h.st1 h1).2.2.forms
 obtain ⟨k1, k2, k3, k4, k5⟩ := h.pa ha
 have hc : Chg [p] w ((w.setCell ⟨p, 0, none⟩ (.slice a n c)).setCell ⟨p, 1, none⟩ (.slice a' n' c')) := (store_chg _).trans' (store_chg _)
 have h0 := (h.st1 h1).1
 have hpf : ∀ b, b ∈ f -> b ∉ [p] := fun b hb e => by simp at e; subst e; exact k5 h0 hb
 obtain ⟨t0, r0⟩ := k4.2.1 0 (by omega)
 obtain ⟨t1, r1⟩ := k4.2.1 1 (by omega)
 refine ⟨a, a', n, c, n', c', p, h.ex hx, k1, k4, f, _, _, y0, y1, y2, p, q, ((h.bel.chg _).trans' hc).home (fun b hb => by simp at hb; omega), fun _ e => ?_, fun e => ⟨h0, (h.st1 e).2.1, (h.st1 e).2.2.chg hc hpf⟩, h.mv, h.ex, h.ey, fun e => ⟨k1, k2, Nat.lt_of_lt_of_le k3 hc.size, ?_, k5⟩, fun e => ?_, fun _ => ⟨put2a_0 _ _ r0, put2a_1 _ _ r1, ha⟩⟩
 · have e : S.c1 = false := e
   rw [h1] at e; cases e
 · refine ⟨Nat.lt_of_lt_of_le k4.1 hc.size, fun j hj => ?_, fun o => (World.frozen?_setCell ..).trans ((World.frozen?_setCell ..).trans (k4.2.2 o))⟩
   rcases j with _ | _ | j
   · exact ⟨_, put2a_0 _ _ r0⟩
   · exact ⟨_, put2a_1 _ _ r1⟩
   · omega
 · obtain ⟨j1, j2, j3, j4, j5, j6⟩ := h.qb e
   exact ⟨j1, j2, Nat.lt_of_lt_of_le j3 hc.size, j4.chg_off j3 hc (fun e => by simp at e; exact j6 ha e.symm), j5, j6⟩
theorem TupI.fin (h : TupI w0 ms hs id R S w) (h1 : S.c1 = true) (hy : S.cy = true) (hs' : S.cs = true) (hb : S.cb = true) : ∃ f x0 x1 y0 y1 y2 p q, S.va = .pointer (some ⟨p, 0, none⟩) ∧ S.vb = .pointer (some ⟨q, 0, none⟩) ∧ S.vy = .agg #[y0, y1, y2] ∧ DoN w0 id R x0 x1 y0 y1 y2 f w ∧ w.cell? ⟨p, 0, none⟩ = some x0 ∧ w.cell? ⟨p, 1, none⟩ = some x1 ∧ RoomAt q 3 w ∧ p ∉ f ∧ q ∉ f ∧ p ≠ q ∧ w0.heap.size <= p ∧ w0.heap.size <= q ∧ p < w.heap.size := by
 obtain ⟨f, x0, x1, y0, y1, y2, p, q, h⟩ := h
 obtain ⟨s0, s1, ha⟩ := h.sd hs'
 obtain ⟨k1, k2, k3, k4, k5⟩ := h.pa ha
 obtain ⟨j1, j2, j3, j4, j5, j6⟩ := h.qb hb
 obtain ⟨h0, -, hd⟩ := h.st1 h1
 exact ⟨f, x0, x1, y0, y1, y2, p, q, k1, j1, h.ey hy, hd, s0, s1, j4, k5 h0, j5 h0, j6 ha, k2, j2, k3⟩
end Go.Proofs.YtaeiddoccfaheaaGreat
