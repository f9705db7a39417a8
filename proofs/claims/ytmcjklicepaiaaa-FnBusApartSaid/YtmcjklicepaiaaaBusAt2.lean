/-
  A bus that has been drawn, laid into a box again. No program in sight.
-/
import Derived.Test.YtmcjklicepaiaaaBusAt
namespace Go.Proofs.Ytmcjklicepaiaaa
set_option linter.unusedVariables false
set_option linter.unusedSimpArgs false
open Go.RowKit Go.WideShapes

variable {L0 fq fm : List Nat} {rb : Nat} {T0 T : Tab} {w w1 w2 : World} {M : Int} {lm : List MR} {va la pa : Option Addr} {vn vc ln lc pn pc : Nat} {G G' : Gd}

theorem BusPost.weaken {e : Ending} (h : BusPost G L0 rb fq T0 w M e w2 T lm fm va vn vc la ln lc pa pn pc) (hG : ∀ x, G.ok x → G'.ok x) (hcp : G.cap ≤ G'.cap) : BusPost G' L0 rb fq T0 w M e w2 T lm fm va vn vc la ln lc pa pn pc :=
  ⟨h.ret, h.th.weaken hG hcp, h.st, h.rd, h.mp, h.fz, h.lat, h.prg⟩

theorem BusAt.weaken {bx cx : Nat} {vm : Value} (h : BusAt G L0 rb bx cx fq T0 w M lm fm vm T w2 la ln lc pa pn pc) (hG : ∀ x, G.ok x → G'.ok x) (hcp : G.cap ≤ G'.cap) : BusAt G' L0 rb bx cx fq T0 w M lm fm vm T w2 la ln lc pa pn pc :=
  ⟨h.th.weaken hG hcp, h.st, h.rd, h.mp, h.fz, h.lat, h.prg, h.c0, h.c1, h.c2, h.fr, h.r0, h.r1, h.r2, h.fc⟩

theorem BusAt.start {e : Ending} (hrb : rb ∈ L0) (hfq : ∀ b, b ∈ fq → b ∈ L0) (hlt : rb < w.heap.size) (hold : ∀ b, b ∈ fq → b < w.heap.size) (b1 : Below w.heap.size w w1) (z1 : w.heap.size < w1.heap.size) (ht : T0 w.heap.size = none)
    (hp : BusPost G (w.heap.size :: L0) rb fq T0 w1 M e w2 T lm fm va vn vc la ln lc pa pn pc) (r0 : ∃ u, w1.cell? ⟨w.heap.size, 0, none⟩ = some u) (r1 : ∃ u, w1.cell? ⟨w.heap.size, 1, none⟩ = some u) (r2 : ∃ u, w1.cell? ⟨w.heap.size, 2, none⟩ = some u) (rf : ∀ o, w1.frozen? ⟨w.heap.size, o, none⟩ = false) (t : TypeId) :
    BusC (w2.heap.size :: w.heap.size :: L0) rb w2.heap.size w.heap.size fq w ∧
    BusAt G (w2.heap.size :: w.heap.size :: L0) rb w2.heap.size w.heap.size fq T0 w M lm fm (.slice va vn vc) T (w2.alloc (.cells #[.slice va vn vc, .slice la ln lc, .slice pa pn pc] t)) la ln lc pa pn pc := by
  have z2 := hp.st.size
  have bb := below_alloc w2 (.cells #[.slice va vn vc, .slice la ln lc, .slice pa pn pc] t)
  have hnr : w.heap.size ∉ [rb] := by simp; omega
  have hnb : w.heap.size ≠ rb := by omega
  refine ⟨⟨by simp [hrb], by simp, by simp, fun b hb => by simp [hfq b hb], by omega, hnb, by omega, fun hm => by have := hold _ hm; omega, fun hm => by have := hold _ hm; omega, by omega, Nat.le_refl _⟩,
    ⟨hp.th.opened bb (Nat.le_refl _) (by simp), ((Step.of_chg (b1.chg [rb])).trans hp.st).trans (Step.of_chg (bb.chg [rb])), hp.rd.below bb, hp.mp.below mrR_fits bb, fun b hb => ?_, hp.lat, hp.prg, alloc1_new _ _ _ 0 rfl, alloc1_new _ _ _ 1 rfl, alloc1_new _ _ _ 2 rfl, fun o => alloc1_free _ _ _ _,
      r0.imp fun u hu => alloc_keep (hp.st.cell hu hnr ht) _, r1.imp fun u hu => alloc_keep (hp.st.cell hu hnr ht) _, r2.imp fun u hu => alloc_keep (hp.st.cell hu hnr ht) _,
      fun o => keep_free bb (show w.heap.size < w2.heap.size by omega) ((World.frozen?_of_block (hp.st.block w.heap.size z1 hnr ht)).trans (rf o))⟩⟩
  obtain ⟨g1, g2, g3⟩ := hp.fz b hb
  exact ⟨g1, by simp only [List.mem_cons, not_or] at g2 ⊢; exact ⟨by omega, g2⟩, by simp; omega⟩

/-- where one lies there is an address -/
theorem SlT.addr {k n : Nat} {a : Option Addr} (h : SlT T k a n) (hn : 0 < n) : ∃ b off, a = some ⟨b, off, none⟩ := by
  rcases h with rfl | ⟨b, o, x, rfl, _⟩
  · omega
  · exact ⟨b, _, rfl⟩
/-- what lies behind the first -/
theorem SlA.tail {k n cap b off : Nat} (h : SlA T k (some ⟨b, off, none⟩) n cap) (hn : 1 < cap) (h0 : 0 < n) (hk : kK k = 1) : SlA T k (some ⟨b, off + 1, none⟩) (n - 1) (cap - 1) := by
  obtain ⟨h1, h2, ⟨h3, _⟩ | ⟨b', o, x, e, g1, g2, g3, g4⟩⟩ := h
  · cases h3
  · cases e
    refine ⟨by omega, by omega, .inr ⟨b, o + 1, x, ?_, g1, g2, by omega, ?_⟩⟩
    · rw [hk]
      simp only [Nat.mul_one, Nat.add_assoc]
    · rw [hk] at g4 ⊢
      simp only [Nat.mul_one] at g4 ⊢
      omega

/-- a row of rows: one of them -/
theorem SlT.row {n i : Nat} {b off : Nat} (h : SlT T 4 (some ⟨b, off, none⟩) n) (hi : i < n) (hT : TH G L0 T w) : ∃ a nn cc, w.cell? ⟨b, off + i, none⟩ = some (.slice a nn cc) ∧ SlA T 2 a nn cc ∧ nn ≤ G.cap ∧ T b ≠ none := by
  rcases h with rfl | ⟨b', o, x, e, hb, hk, hn⟩
  · omega
  · cases e
    obtain ⟨cs, _, ⟨a, nn, cc, rfl, hA, hc⟩, h3⟩ := hT.at' hb hk hn hi
    have := h3 0 (by simp)
    simp only [Nat.add_zero, List.getElem_cons_zero, kK, Nat.mul_one] at this
    refine ⟨a, nn, cc, ?_, hA, hc, by rw [hb]; simp⟩
    rw [show kK 4 = 1 from rfl, Nat.mul_one]
    exact this

theorem BusAt.move {L fq fm : List Nat} {rb bx cx : Nat} {T0 T T' : Tab} {w0 w w' : World} {M M' : Int} {lm : List MR} {vm : Value} {la pa : Option Addr} {ln lc pn pc : Nat} (C : BusC L rb bx cx fq w0) (h : BusAt G L rb bx cx fq T0 w0 M lm fm vm T w la ln lc pa pn pc) (t : TH G L T' w') (s : Step [rb] T w T' w') (hr : RdAt w' rb fq M') : BusAt G L rb bx cx fq T0 w0 M' lm fm vm T' w' la ln lc pa pn pc := by
  have tb := h.th.rd bx C.hbx
  have tc := h.th.rd cx C.hcx
  have q : ∀ b, b ∈ [rb] → b ∈ L := by simpa using C.hrb
  have n1 : bx ∉ [rb] := by simpa using C.n1
  have n2 : cx ∉ [rb] := by simpa using C.n2
  exact ⟨t, h.st.trans s, hr, h.mp.same mrR_fits (h.fz.same s q) s.size, h.fz.step s, h.lat.ext s.ext, h.prg.ext s.ext, s.cell h.c0 n1 tb, s.cell h.c1 n1 tb, s.cell h.c2 n1 tb,
    fun o => (World.frozen?_of_block (s.block bx (block_of_cell h.c0) n1 tb)).trans (h.fr o), h.r0.imp fun u e => s.cell e n2 tc, h.r1.imp fun u e => s.cell e n2 tc, h.r2.imp fun u e => s.cell e n2 tc,
    fun o => (World.frozen?_of_block (s.block cx (h.th.old cx C.hcx) n2 tc)).trans (h.fc o)⟩

/-- a row grown by one request, where the rest of the statement's order is open: what holds throughout (7: the request; 8: it lies in a block of its own; 9: the row has grown) -/
def OrI (L : List Nat) (rb : Nat) (fq : List Nat) (T : Tab) (w5 : World) (nn : Nat) (base : Int) (ls : Nat → Bool) (u : Nat → Value) (m : Nat) (w : World) : Prop :=
  RdAt w rb fq (base + 3000 * m) ∧
  (ls 9 = false → Chg [rb] w5 w ∧
    (ls 7 = true → ∃ (x : Req) (da : Option Addr) (dn dc : Nat) (ea : Option Addr) (en ec : Nat), u 7 = .agg #[.int .i64 x.id, .int .i64 x.kind, .int .i64 x.addr, .int .i64 x.many, .bool x.wrap, .slice da dn dc, .slice ea en ec] ∧ UnitOk gAny L T w 2 [.int .i64 x.id, .int .i64 x.kind, .int .i64 x.addr, .int .i64 x.many, .bool x.wrap, .slice da dn dc, .slice ea en ec]) ∧
    (ls 8 = true → ∃ (b : Nat) (x : Req) (da : Option Addr) (dn dc : Nat) (ea : Option Addr) (en ec : Nat), u 8 = .slice (some ⟨b, 0, none⟩) 1 1 ∧ UnitOk gAny L T w 2 [.int .i64 x.id, .int .i64 x.kind, .int .i64 x.addr, .int .i64 x.many, .bool x.wrap, .slice da dn dc, .slice ea en ec] ∧
      ∀ j (hj : j < ([.int .i64 x.id, .int .i64 x.kind, .int .i64 x.addr, .int .i64 x.many, .bool x.wrap, .slice da dn dc, .slice ea en ec] : List Value).length), w.cell? ((⟨b, 0, none⟩ : Addr).add j) = some ([.int .i64 x.id, .int .i64 x.kind, .int .i64 x.addr, .int .i64 x.many, .bool x.wrap, .slice da dn dc, .slice ea en ec] : List Value)[j])) ∧
  (ls 9 = true → ∃ (ao' : Option Addr) (cap' : Nat) (T' : Tab), u 9 = .slice ao' (nn + 1) cap' ∧ TH gAny L T' w ∧ Step [rb] T w5 T' w ∧ SlA T' 2 ao' (nn + 1) cap')

variable {L : List Nat} {T' : Tab} {w5 w' : World} {nn m : Nat} {base : Int} {ls : Nat → Bool} {u : Nat → Value}

theorem OrI.cell (h : OrI L rb fq T w5 nn base ls u m w) {bx j : Nat} {v : Value} (hc : w5.cell? ⟨bx, j, none⟩ = some v) (n : bx ∉ [rb]) (t : T bx = none) : w.cell? ⟨bx, j, none⟩ = some v := by
  cases e : ls 9 with
  | false => exact keep_cell_chg (h.2.1 e).1 hc n
  | true =>
    obtain ⟨_, _, T', _, _, s, _⟩ := h.2.2 e
    exact s.cell hc n t
theorem OrI.next {i : Nat} {v : Value} (h7 : 7 ≠ i) (h8 : 8 ≠ i) (h9 : 9 ≠ i) (h : OrI L rb fq T w5 nn base ls u m w) : OrI L rb fq T w5 nn base (fun j => decide (j = i) || ls j) (fun j => if j = i then v else u j) (m + 1) w := by
  refine ⟨h.1.mono (by omega), fun e => ?_, fun e => ?_⟩
  · simp only [h7, h8, h9, if_false, decide_false, Bool.false_or] at e ⊢; exact h.2.1 e
  · simp only [h9, if_false, decide_false, Bool.false_or] at e ⊢; exact h.2.2 e
theorem OrI.seven (h : OrI L rb fq T w5 nn base ls u m w) (l8 : ls 8 = false) (l9 : ls 9 = false) (hc : Chg [rb] w w') (hr : RdAt w' rb fq (base + 3000 * m + 2000)) {x : Req} {da : Option Addr} {dn dc : Nat} {ea : Option Addr} {en ec : Nat} (hU : UnitOk gAny L T w' 2 [.int .i64 x.id, .int .i64 x.kind, .int .i64 x.addr, .int .i64 x.many, .bool x.wrap, .slice da dn dc, .slice ea en ec]) :
    OrI L rb fq T w5 nn base (fun j => decide (j = 7) || ls j) (fun j => if j = 7 then .agg #[.int .i64 x.id, .int .i64 x.kind, .int .i64 x.addr, .int .i64 x.many, .bool x.wrap, .slice da dn dc, .slice ea en ec] else u j) (m + 1) w' := by
  refine ⟨hr.mono (by omega), fun _ => ⟨(h.2.1 l9).1.trans' hc, fun _ => ⟨x, da, dn, dc, ea, en, ec, rfl, hU⟩, fun e => ?_⟩, fun e => ?_⟩
  · have e' : ls 8 = true := e
    rw [l8] at e'; cases e'
  · have e' : ls 9 = true := e
    rw [l9] at e'; cases e'
theorem OrI.eight (h : OrI L rb fq T w5 nn base ls u m w) (l9 : ls 9 = false) {x : Req} {da : Option Addr} {dn dc : Nat} {ea : Option Addr} {en ec : Nat} {t : TypeId} (hU : UnitOk gAny L T w 2 [.int .i64 x.id, .int .i64 x.kind, .int .i64 x.addr, .int .i64 x.many, .bool x.wrap, .slice da dn dc, .slice ea en ec]) :
    OrI L rb fq T w5 nn base (fun j => decide (j = 8) || ls j) (fun j => if j = 8 then .slice (some ⟨w.heap.size, 0, none⟩) 1 1 else u j) (m + 1) (w.alloc (.cells #[.int .i64 x.id, .int .i64 x.kind, .int .i64 x.addr, .int .i64 x.many, .bool x.wrap, .slice da dn dc, .slice ea en ec] t)) := by
  have ba := below_alloc w (.cells #[.int .i64 x.id, .int .i64 x.kind, .int .i64 x.addr, .int .i64 x.many, .bool x.wrap, .slice da dn dc, .slice ea en ec] t)
  refine ⟨(h.1.below ba).mono (by omega), fun _ => ⟨(h.2.1 l9).1.trans' (ba.chg _), fun e => ?_, fun _ => ⟨w.heap.size, x, da, dn, dc, ea, en, ec, rfl, hU.step (Step.of_below [] ba) (by simp), fun j hj => ?_⟩⟩, fun e => ?_⟩
  · obtain ⟨y, q1, q2, q3, q4, q5, q6, e7, hV⟩ := (h.2.1 l9).2.1 e
    exact ⟨y, q1, q2, q3, q4, q5, q6, e7, hV.step (Step.of_below [] ba) (by simp)⟩
  · rw [add_plain, Nat.zero_add]
    exact alloc1_new w _ _ j (by rw [List.getElem?_toArray]; exact List.getElem?_eq_getElem hj)
  · have e' : ls 9 = true := e
    rw [l9] at e'; cases e'
theorem OrI.nine (h : OrI L rb fq T w5 nn base ls u m w) (l9 : ls 9 = false) (hL : rb ∈ L) (hq : ∀ b, b ∈ fq → b ∈ L) (ht : TH gAny L T w) (t : TH gAny L T' w') (s : Step [] T w T' w') {ao' : Option Addr} {cap' : Nat} (hA : SlA T' 2 ao' (nn + 1) cap') :
    OrI L rb fq T w5 nn base (fun j => decide (j = 9) || ls j) (fun j => if j = 9 then .slice ao' (nn + 1) cap' else u j) (m + 1) w' := by
  refine ⟨(h.1.step s (ht.rd rb hL) (fun b hb => ht.rd b (hq b hb)) rfl).mono (by omega), fun e => ?_, fun _ => ⟨ao', cap', T', rfl, t, (Step.of_chg (h.2.1 l9).1).trans (s.mono (by simp)), hA⟩⟩
  simp at e
theorem OrI.start (h : RdAt w rb fq base) (hl : ∀ i, ls i = false) : OrI L rb fq T w nn base ls u 0 w.drew :=
  ⟨(h.below (Below.refl _ _).drew).mono (by omega), fun _ => ⟨(Chg.refl _ _).drewN 1, fun e => (by rw [hl] at e; cases e), fun e => (by rw [hl] at e; cases e)⟩, fun e => by rw [hl] at e; cases e⟩

end Go.Proofs.Ytmcjklicepaiaaa
