/-
 Texts of this claim laid together: TSD.
-/
import Derived.Test.YtaeiddoccfaheaaGreatPk40
import Derived.Test.YtaeiddoccfaheaaGreatPk34
set_option linter.unusedVariables false
set_option linter.unusedSimpArgs false
namespace Go.Proofs.YtaeiddoccfaheaaGreat
open Go.RowKit Go.WideShapes
def DoI (S : List Nat -> List Int -> List Int -> World -> Prop) (L B : List Nat) (T : Tab) (vw vh : Value) (ms hs : List Int) (x : Req) (p0 p1 : Value) (fd fl : List Nat) (W : World) (ls : Nat -> Bool) (u : Nat -> Value) (_ : Nat) (w : World) : Prop :=
 ∃ Lx ms' hs', (∀ c, c ∈ L -> c ∈ Lx) ∧ S Lx ms' hs' w ∧
  (ls 16 = false -> ms' = ms ∧ hs' = hs ∧ Fz (B ++ Lx) T w (fd ++ fl) ∧ SlR 1 intR w x.data p0 fd ∧ SlR 1 intR w x.lanes p1 fl ∧ Below W.heap.size W w) ∧
  (ls 16 = true -> ∃ (cod : Int) (dv : Value) (fdv : List Nat) (dl : List Int), u 16 = .tuple #[.agg #[vw, vh], .agg #[.int .i64 x.id, .int .i64 cod, dv]] ∧ (ls 17 = true -> u 17 = .tuple #[.agg #[vw, vh], .agg #[.int .i64 x.id, .int .i64 cod, dv]]) ∧ SlR 1 intR w dl dv fdv ∧ dl.length <= 4 ∧ Fz (B ++ Lx) T w fdv ∧ (ls 19 = true -> u 19 = .agg #[.int .i64 x.id, .int .i64 cod, dv])) ∧
  (ls 20 = true -> ∃ q, u 20 = .pointer (some ⟨q, 0, none⟩) ∧ q ∈ Lx ∧ W.heap.size <= q ∧ RoomAt q 2 w ∧ (ls 22 = true -> FCs q [vw, vh] undef w)) ∧
  (ls 21 = true -> ∃ q, u 21 = .pointer (some ⟨q, 0, none⟩) ∧ q ∈ Lx ∧ W.heap.size <= q ∧ RoomAt q 3 w) ∧
  (ls 20 = true -> ls 21 = true -> u 20 ≠ u 21) ∧ W.heap.size <= w.heap.size
variable {S : List Nat -> List Int -> List Int -> World -> Prop} {L B : List Nat} {T : Tab} {vw vh : Value} {ms hs : List Int} {x : Req} {p0 p1 : Value} {fd fl : List Nat} {n : Nat} {ls : Nat -> Bool} {u : Nat -> Value} {W w w' : World}
theorem DoI.start (h : S L ms hs w) (hS : S L ms hs w -> S L ms hs w.drew) (hz : Fz (B ++ L) T w (fd ++ fl)) (h0 : SlR 1 intR w x.data p0 fd) (h1 : SlR 1 intR w x.lanes p1 fl) (hl : ∀ i, ls i = false) : DoI S L B T vw vh ms hs x p0 p1 fd fl w ls u 0 w.drew :=
 have b := (Below.refl w.heap.size w).drew
 ⟨L, ms, hs, fun _ h => h, hS h, fun _ => ⟨rfl, rfl, hz.step (Step.of_below [] b), h0.below intR_fits b, h1.below intR_fits b, b⟩, fun e => (by rw [hl] at e; cases e), fun e => (by rw [hl] at e; cases e), fun e => (by rw [hl] at e; cases e), fun e => (by rw [hl] at e; cases e), Nat.le_refl _⟩
theorem DoI.next {i : Nat} {v : Value} (h16 : 16 ≠ i) (h17 : 17 ≠ i) (h19 : 19 ≠ i) (h20 : 20 ≠ i) (h21 : 21 ≠ i) (h22 : 22 ≠ i) (h : DoI S L B T vw vh ms hs x p0 p1 fd fl W ls u n w) :
 DoI S L B T vw vh ms hs x p0 p1 fd fl W (fun j => decide (j = i) || ls j) (fun j => if j = i then v else u j) (n + 1) w := by
 unfold DoI at h ⊢
 simp only [h16, h17, h19, h20, h21, h22, if_false, decide_false, Bool.false_or]
 exact h
theorem DoI.pre (h : DoI S L B T vw vh ms hs x p0 p1 fd fl W ls u n w) (l : ls 16 = false) : ∃ Lx, (∀ c, c ∈ L -> c ∈ Lx) ∧ S Lx ms hs w ∧ Fz (B ++ Lx) T w (fd ++ fl) ∧ SlR 1 intR w x.data p0 fd ∧ SlR 1 intR w x.lanes p1 fl ∧ Below W.heap.size W w := by
 obtain ⟨Lx, ms', hs', h1, h2, h3, -⟩ := h
 obtain ⟨rfl, rfl, g⟩ := h3 l
 exact ⟨Lx, h1, h2, g⟩
theorem DoI.mv {v : Value} (h : DoI S L B T vw vh ms hs x p0 p1 fd fl W ls u n w) (l : ls 16 = true) (l19 : ls 19 = false) (hv : v = u 16) : DoI S L B T vw vh ms hs x p0 p1 fd fl W (fun j => decide (j = 17) || ls j) (fun j => if j = 17 then v else u j) (n + 1) w := by
 obtain ⟨Lx, ms', hs', h1, h2, h3, h4, h5⟩ := h
 obtain ⟨cod, dv, fdv, dl, e, e17, g1, gl, g2, g3⟩ := h4 l
 exact ⟨Lx, ms', hs', h1, h2, h3, fun _ => ⟨cod, dv, fdv, dl, e, fun _ => hv.trans e, g1, gl, g2, fun e' => by
  have e'' : ls 19 = true := e'
  rw [l19] at e''; cases e''⟩, h5⟩
theorem DoI.tup (h : DoI S L B T vw vh ms hs x p0 p1 fd fl W ls u n w) (l : ls 16 = true) : ∃ (cod : Int) (dv : Value), u 16 = .tuple #[.agg #[vw, vh], .agg #[.int .i64 x.id, .int .i64 cod, dv]] ∧ (ls 17 = true -> u 17 = .tuple #[.agg #[vw, vh], .agg #[.int .i64 x.id, .int .i64 cod, dv]]) ∧
 DoI S L B T vw vh ms hs x p0 p1 fd fl W (fun j => decide (j = 19) || ls j) (fun j => if j = 19 then .agg #[.int .i64 x.id, .int .i64 cod, dv] else u j) (n + 1) w := by
 obtain ⟨Lx, ms', hs', h1, h2, h3, h4, h5⟩ := h
 obtain ⟨cod, dv, fdv, dl, e, e17, g1, gl, g2, -⟩ := h4 l
 exact ⟨cod, dv, e, e17, Lx, ms', hs', h1, h2, h3, fun _ => ⟨cod, dv, fdv, dl, e, e17, g1, gl, g2, fun _ => rfl⟩, h5⟩
theorem Fz.more {Lx fp : List Nat} {q : Nat} (h : Fz (B ++ Lx) T w fp) (hb : Below w.heap.size w w') (hq : w.heap.size <= q) : Fz (B ++ q :: Lx) T w' fp := fun d hd => by
 obtain ⟨g1, g2, g3⟩ := h d hd
 refine ⟨g1, ?_, Nat.lt_of_lt_of_le g3 hb.size⟩
 simp only [List.mem_append, List.mem_cons, not_or] at g2 ⊢
 exact ⟨g2.1, by omega, g2.2⟩
theorem DoI.call (h : DoI S L B T vw vh ms hs x p0 p1 fd fl W ls u n w) (l16 : ls 16 = false) (l17 : ls 17 = false) (l19 : ls 19 = false) (l22 : ls 22 = false) {ms2 hs2 : List Int} {cod : Int} {dv : Value} {fdv fq : List Nat} {dl : List Int} (hS : ∀ Lx, (∀ c, c ∈ L -> c ∈ Lx) -> S Lx ms hs w -> S Lx ms2 hs2 w') (hc : Chg fq w w') (hq : ∀ c, c ∈ fq -> c < W.heap.size) (hg : SlR 1 intR w' dl dv fdv) (hgl : dl.length <= 4) (hz : ∀ Lx, (∀ c, c ∈ L -> c ∈ Lx) -> S Lx ms hs w -> Fz (B ++ Lx) T w' fdv) :
 DoI S L B T vw vh ms hs x p0 p1 fd fl W (fun j => decide (j = 16) || ls j) (fun j => if j = 16 then .tuple #[.agg #[vw, vh], .agg #[.int .i64 x.id, .int .i64 cod, dv]] else u j) (n + 1) w' := by
 obtain ⟨Lx, ms', hs', h1, h2, h3, h4, h5, h6, h7, h8⟩ := h
 obtain ⟨rfl, rfl, -⟩ := h3 l16
 refine ⟨Lx, ms2, hs2, h1, hS _ h1 h2, fun e => by simp at e, fun _ => ⟨cod, dv, fdv, dl, rfl, fun e => ?_, hg, hgl, hz _ h1 h2, fun e => ?_⟩, fun e => ?_, fun e => ?_, h7, Nat.le_trans h8 hc.size⟩
 · have e' : ls 17 = true := e
   rw [l17] at e'; cases e'
 · have e' : ls 19 = true := e
   rw [l19] at e'; cases e'
 · obtain ⟨q, g1, g2, g3, g4, g5⟩ := h5 e
   exact ⟨q, g1, g2, g3, g4.chg hc (fun hm => by have := hq q hm; omega), fun e' => by
    have e'' : ls 22 = true := e'
    rw [l22] at e''; cases e''⟩
 · obtain ⟨q, g1, g2, g3, g4⟩ := h6 e
   exact ⟨q, g1, g2, g3, g4.chg hc (fun hm => by have := hq q hm; omega)⟩
theorem DoI.lay (h : DoI S L B T vw vh ms hs x p0 p1 fd fl W ls u n w) (l16 : ls 16 = true) (l20 : ls 20 = true) (l21 : ls 21 = true) (hS : ∀ Lx ms hs q w', (∀ c, c ∈ L -> c ∈ Lx) -> q ∈ Lx -> W.heap.size <= q -> Chg [q] w w' -> S Lx ms hs w -> S Lx ms hs w') :
 ∃ q, u 20 = .pointer (some ⟨q, 0, none⟩) ∧ RoomAt q 2 w ∧ ∀ v, DoI S L B T vw vh ms hs x p0 p1 fd fl W (fun j => decide (j = 22) || ls j) (fun j => if j = 22 then v else u j) (n + 1) ((w.setCell ⟨q, 0, none⟩ vw).setCell ⟨q, 1, none⟩ vh) := by
 obtain ⟨Lx, ms', hs', h1, h2, h3, h4, h5, h6, h7, h8⟩ := h
 obtain ⟨q, e0, hq, hN, hr, -⟩ := h5 l20
 have hc : Chg [q] w ((w.setCell ⟨q, 0, none⟩ vw).setCell ⟨q, 1, none⟩ vh) := (store_chg _).trans' (store_chg _)
 refine ⟨q, e0, hr, fun v => ⟨Lx, ms', hs', h1, hS _ _ _ q _ h1 hq hN hc h2, fun e => ?_, fun _ => ?_, fun _ => ⟨q, e0, hq, hN, (hr.set (by omega)).set (by omega), fun _ => ?_⟩, fun _ => ?_, fun _ _ => h7 l20 l21, Nat.le_trans h8 hc.size⟩⟩
 · have e' : ls 16 = false := e
   rw [l16] at e'; cases e'
 · obtain ⟨cod, dv, fdv, dl, g1, g17, g2, gl, g3, g4⟩ := h4 l16
   refine ⟨cod, dv, fdv, dl, g1, g17, g2.chg intR_fits hc (fun c hm e => ?_), gl, g3.step (Step.of_chg hc), g4⟩
   have := (g3 c hm).2.1
   simp at e
   subst e
   exact this (by simp [hq])
 · obtain ⟨u0, p0⟩ := hr.2.1 0 (by omega)
   obtain ⟨u1, p1⟩ := hr.2.1 1 (by omega)
   exact FCs.two p0 p1
 · obtain ⟨q', g1, g2, g3, g4⟩ := h6 l21
   refine ⟨q', g1, g2, g3, g4.chg hc (fun hm => ?_)⟩
   simp at hm
   subst hm
   exact h7 l20 l21 (e0.trans g1.symm)
structure RspAt (q : Nat) (id cod : Int) (dv : Value) (dl : List Int) (fdv L1 : List Nat) (T : Tab) (w : World) : Prop where
 c0 : w.cell? ⟨q, 0, none⟩ = some (.int .i64 id)
 c1 : w.cell? ⟨q, 1, none⟩ = some (.int .i64 cod)
 c2 : w.cell? ⟨q, 2, none⟩ = some dv
 g : SlR 1 intR w dl dv fdv
 z : Fz L1 T w fdv
theorem RspAt.step {q : Nat} {id cod : Int} {dv : Value} {dl : List Int} {fdv L1 : List Nat} {T' : Tab} (h : RspAt q id cod dv dl fdv L1 T w) (s : Step [] T w T' w') (ht : T q = none) : RspAt q id cod dv dl fdv L1 T' w' :=
 ⟨s.cell h.c0 (by simp) ht, s.cell h.c1 (by simp) ht, s.cell h.c2 (by simp) ht, h.g.same intR_fits (h.z.same s (by simp)) s.size, h.z.step s⟩
theorem RspAt.chg {q : Nat} {id cod : Int} {dv : Value} {dl : List Int} {fdv L1 fq : List Nat} (h : RspAt q id cod dv dl fdv L1 T w) (hc : Chg fq w w') (hq : ∀ c, c ∈ fq -> c ∈ L1) (hn : q ∉ fq) : RspAt q id cod dv dl fdv L1 T w' :=
 ⟨keep_cell_chg hc h.c0 hn, keep_cell_chg hc h.c1 hn, keep_cell_chg hc h.c2 hn, h.g.same intR_fits (h.z.same (Step.of_chg (T := T) hc) hq) hc.size, h.z.step (Step.of_chg hc)⟩
end Go.Proofs.YtaeiddoccfaheaaGreat
