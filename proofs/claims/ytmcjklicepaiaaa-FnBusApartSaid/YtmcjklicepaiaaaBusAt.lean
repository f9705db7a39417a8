/-
  How a bus that is being drawn stands: a box of three slices, over the heap by kinds. No program in sight.
-/
import Derived.Test.YtmcjklicepaiaaaTHop
import Derived.Test.YtmcjklicepaiaaaDBox
import Derived.Test.YtmcjklicepaiaaaMap
import Derived.Test.YtmcjklicepaiaaaReqOk
namespace Go.Proofs.Ytmcjklicepaiaaa
set_option linter.unusedVariables false
set_option linter.unusedSimpArgs false
open Go.RowKit Go.WideShapes

theorem reqOk_fit {x : Req} (h : reqOk x = true) : reqFit x := by
  unfold reqOk at h
  simp only [Bool.and_eq_true, inB_true, beq_iff_eq, Bool.or_eq_true] at h
  obtain ⟨h1, h2, h3, h4, h5, -⟩ := h
  refine ⟨h1.1, h1.2, fun _ k1 k3 => ?_⟩
  have e : manyOf x = x.many := by
    unfold manyOf
    have : x.kind = 2 ∨ x.kind = 4 := by omega
    rcases this with q | q <;> simp [writesB, q]
  rw [e] at h4 h5
  exact ⟨h4, h5⟩

variable {L fq fm : List Nat} {rb bx cx : Nat} {T0 T T' : Tab} {w0 w w' : World} {M M' : Int} {lm : List MR} {vm : Value} {la pa : Option Addr} {ln lc pn pc : Nat}

theorem Step.later {fp : List Nat} (s : Step fq T0 w0 T w) (hc : Chg fp w w') (h : ∀ b, b ∈ fp → w0.heap.size ≤ b) : Step fq T0 w0 T w' :=
  ⟨hc.os.trans s.os, hc.tape.trans s.tape, hc.output.trans s.output, Nat.le_trans s.size hc.size, fun b hb hn ht => (hc.block b (Nat.lt_of_lt_of_le hb s.size) (fun hm => by have := h b hm; omega)).trans (s.block b hb hn ht), s.ext, s.fresh⟩

/-- what holds throughout -/
structure BusC (L : List Nat) (rb bx cx : Nat) (fq : List Nat) (w0 : World) : Prop where
  hrb : rb ∈ L
  hbx : bx ∈ L
  hcx : cx ∈ L
  hfq : ∀ b, b ∈ fq → b ∈ L
  n1 : bx ≠ rb
  n2 : cx ≠ rb
  n3 : bx ≠ cx
  n4 : bx ∉ fq
  n5 : cx ∉ fq
  l1 : w0.heap.size ≤ bx
  l2 : w0.heap.size ≤ cx

/-- the box, and all that it leads to -/
structure BusAt (G : Gd) (L : List Nat) (rb bx cx : Nat) (fq : List Nat) (T0 : Tab) (w0 : World) (M : Int) (lm : List MR) (fm : List Nat) (vm : Value) (T : Tab) (w : World) (la : Option Addr) (ln lc : Nat) (pa : Option Addr) (pn pc : Nat) : Prop where
  th : TH G L T w
  st : Step [rb] T0 w0 T w
  rd : RdAt w rb fq M
  mp : SlR 4 mrR w lm vm fm
  fz : Fz L T w fm
  lat : SlA T 1 la ln lc
  prg : SlA T 4 pa pn pc
  c0 : w.cell? ⟨bx, 0, none⟩ = some vm
  c1 : w.cell? ⟨bx, 1, none⟩ = some (.slice la ln lc)
  c2 : w.cell? ⟨bx, 2, none⟩ = some (.slice pa pn pc)
  fr : ∀ o, w.frozen? ⟨bx, o, none⟩ = false
  r0 : ∃ u, w.cell? ⟨cx, 0, none⟩ = some u
  r1 : ∃ u, w.cell? ⟨cx, 1, none⟩ = some u
  r2 : ∃ u, w.cell? ⟨cx, 2, none⟩ = some u
  fc : ∀ o, w.frozen? ⟨cx, o, none⟩ = false

variable {G : Gd}

theorem BusAt.draw (C : BusC L rb bx cx fq w0) (h : BusAt G L rb bx cx fq T0 w0 M lm fm vm T w la ln lc pa pn pc) (hc : Chg [rb] w w') (hr : RdAt w' rb fq M') : BusAt G L rb bx cx fq T0 w0 M' lm fm vm T w' la ln lc pa pn pc := by
  have q : ∀ b, b ∈ [rb] → b ∈ L := by simpa using C.hrb
  have n1 : bx ∉ [rb] := by simpa using C.n1
  have n2 : cx ∉ [rb] := by simpa using C.n2
  exact ⟨h.th.chg hc q, h.st.trans (Step.of_chg hc), hr, h.mp.same mrR_fits (h.fz.same (Step.of_chg hc) q) hc.size, h.fz.step (Step.of_chg hc), h.lat, h.prg, keep_cell_chg hc h.c0 n1, keep_cell_chg hc h.c1 n1, keep_cell_chg hc h.c2 n1,
    fun o => (World.frozen?_of_block (hc.block bx (block_of_cell h.c0) n1)).trans (h.fr o), h.r0.imp fun u e => keep_cell_chg hc e n2, h.r1.imp fun u e => keep_cell_chg hc e n2, h.r2.imp fun u e => keep_cell_chg hc e n2,
    fun o => (World.frozen?_of_block (hc.block cx (h.th.old cx C.hcx) n2)).trans (h.fc o)⟩
theorem BusAt.step (C : BusC L rb bx cx fq w0) (h : BusAt G L rb bx cx fq T0 w0 M lm fm vm T w la ln lc pa pn pc) (t : TH G L T' w') (s : Step [] T w T' w') : BusAt G L rb bx cx fq T0 w0 M lm fm vm T' w' la ln lc pa pn pc := by
  have tb := h.th.rd bx C.hbx
  have tc := h.th.rd cx C.hcx
  exact ⟨t, h.st.trans (s.mono (by simp)), h.rd.step s (h.th.rd rb C.hrb) (fun b hb => h.th.rd b (C.hfq b hb)) rfl, h.mp.same mrR_fits (h.fz.same s (by simp)) s.size, h.fz.step s, h.lat.ext s.ext, h.prg.ext s.ext, s.cell h.c0 (by simp) tb, s.cell h.c1 (by simp) tb, s.cell h.c2 (by simp) tb,
    fun o => (World.frozen?_of_block (s.block bx (block_of_cell h.c0) (by simp) tb)).trans (h.fr o), h.r0.imp fun u e => s.cell e (by simp) tc, h.r1.imp fun u e => s.cell e (by simp) tc, h.r2.imp fun u e => s.cell e (by simp) tc,
    fun o => (World.frozen?_of_block (s.block cx (h.th.old cx C.hcx) (by simp) tc)).trans (h.fc o)⟩
theorem BusAt.below (C : BusC L rb bx cx fq w0) (h : BusAt G L rb bx cx fq T0 w0 M lm fm vm T w la ln lc pa pn pc) (hb : Below w.heap.size w w') : BusAt G L rb bx cx fq T0 w0 M lm fm vm T w' la ln lc pa pn pc :=
  h.step C (h.th.below hb) (Step.of_below [] hb)
theorem BusAt.mono (h : BusAt G L rb bx cx fq T0 w0 M lm fm vm T w la ln lc pa pn pc) (hm : M ≤ M') : BusAt G L rb bx cx fq T0 w0 M' lm fm vm T w la ln lc pa pn pc := { h with rd := h.rd.mono hm }
/-- the latencies, or the programs, told anew -/
theorem BusAt.setLat (C : BusC L rb bx cx fq w0) (h : BusAt G L rb bx cx fq T0 w0 M lm fm vm T w la ln lc pa pn pc) {la' : Option Addr} {ln' lc' : Nat} (hA : SlA T 1 la' ln' lc') : BusAt G L rb bx cx fq T0 w0 M lm fm vm T (w.setCell ⟨bx, 1, none⟩ (.slice la' ln' lc')) la' ln' lc' pa pn pc := by
  have hc : Chg [bx] w (w.setCell ⟨bx, 1, none⟩ (.slice la' ln' lc')) := store_chg _
  have q : ∀ b, b ∈ [bx] → b ∈ L := by simpa using C.hbx
  exact ⟨h.th.chg hc q, h.st.later hc (by simpa using C.l1), h.rd.chg hc (by simpa using C.n1.symm) (fun b hb hm => C.n4 (by simp at hm; subst hm; exact hb)), h.mp.same mrR_fits (h.fz.same (Step.of_chg hc) q) hc.size, h.fz.step (Step.of_chg hc), hA, h.prg, setOther _ (by decide) h.c0, setSame _ h.c1, setOther _ (by decide) h.c2,
    fun o => (World.frozen?_setCell ..).trans (h.fr o), h.r0.imp fun u e => setFar _ C.n3 e, h.r1.imp fun u e => setFar _ C.n3 e, h.r2.imp fun u e => setFar _ C.n3 e, fun o => (World.frozen?_setCell ..).trans (h.fc o)⟩
theorem BusAt.setPrg (C : BusC L rb bx cx fq w0) (h : BusAt G L rb bx cx fq T0 w0 M lm fm vm T w la ln lc pa pn pc) {pa' : Option Addr} {pn' pc' : Nat} (hA : SlA T 4 pa' pn' pc') : BusAt G L rb bx cx fq T0 w0 M lm fm vm T (w.setCell ⟨bx, 2, none⟩ (.slice pa' pn' pc')) la ln lc pa' pn' pc' := by
  have hc : Chg [bx] w (w.setCell ⟨bx, 2, none⟩ (.slice pa' pn' pc')) := store_chg _
  have q : ∀ b, b ∈ [bx] → b ∈ L := by simpa using C.hbx
  exact ⟨h.th.chg hc q, h.st.later hc (by simpa using C.l1), h.rd.chg hc (by simpa using C.n1.symm) (fun b hb hm => C.n4 (by simp at hm; subst hm; exact hb)), h.mp.same mrR_fits (h.fz.same (Step.of_chg hc) q) hc.size, h.fz.step (Step.of_chg hc), h.lat, hA, setOther _ (by decide) h.c0, setOther _ (by decide) h.c1, setSame _ h.c2,
    fun o => (World.frozen?_setCell ..).trans (h.fr o), h.r0.imp fun u e => setFar _ C.n3 e, h.r1.imp fun u e => setFar _ C.n3 e, h.r2.imp fun u e => setFar _ C.n3 e, fun o => (World.frozen?_setCell ..).trans (h.fc o)⟩
/-- the ranges told anew -/
theorem BusAt.setMap (C : BusC L rb bx cx fq w0) (h : BusAt G L rb bx cx fq T0 w0 M lm fm vm T w la ln lc pa pn pc) {lm' : List MR} {fm' : List Nat} {vm' : Value} (hm : SlR 4 mrR w lm' vm' fm') (hf : Fz L T w fm') : BusAt G L rb bx cx fq T0 w0 M lm' fm' vm' T (w.setCell ⟨bx, 0, none⟩ vm') la ln lc pa pn pc := by
  have hc : Chg [bx] w (w.setCell ⟨bx, 0, none⟩ vm') := store_chg _
  have q : ∀ b, b ∈ [bx] → b ∈ L := by simpa using C.hbx
  exact ⟨h.th.chg hc q, h.st.later hc (by simpa using C.l1), h.rd.chg hc (by simpa using C.n1.symm) (fun b hb hm => C.n4 (by simp at hm; subst hm; exact hb)), hm.same mrR_fits (hf.same (Step.of_chg hc) q) hc.size, hf.step (Step.of_chg hc), h.lat, h.prg, setSame _ h.c0, setOther _ (by decide) h.c1, setOther _ (by decide) h.c2,
    fun o => (World.frozen?_setCell ..).trans (h.fr o), h.r0.imp fun u e => setFar _ C.n3 e, h.r1.imp fun u e => setFar _ C.n3 e, h.r2.imp fun u e => setFar _ C.n3 e, fun o => (World.frozen?_setCell ..).trans (h.fc o)⟩

/-- the heap by kinds after a bus has been drawn: what it leads to, for who calls -/
structure BusPost (G : Gd) (L : List Nat) (rb : Nat) (fq : List Nat) (T0 : Tab) (w0 : World) (M : Int) (e : Ending) (w : World) (T : Tab) (lm : List MR) (fm : List Nat) (va : Option Addr) (vn vc : Nat) (la : Option Addr) (ln lc : Nat) (pa : Option Addr) (pn pc : Nat) : Prop where
  ret : e = .returned (.agg #[.slice va vn vc, .slice la ln lc, .slice pa pn pc])
  th : TH G L T w
  st : Step [rb] T0 w0 T w
  rd : RdAt w rb fq M
  mp : SlR 4 mrR w lm (.slice va vn vc) fm
  fz : Fz L T w fm
  lat : SlA T 1 la ln lc
  prg : SlA T 4 pa pn pc

/-- what is handed back is laid into a box first -/
theorem BusAt.done {L' : List Nat} {va : Option Addr} {vn vc : Nat} (C : BusC L rb bx cx fq w0) (h : BusAt G L rb bx cx fq T0 w0 M lm fm (.slice va vn vc) T w la ln lc pa pn pc) (hs : ∀ b, b ∈ L' → b ∈ L) (hc : Chg [cx] w w') : BusPost G L' rb fq T0 w0 M (.returned (.agg #[.slice va vn vc, .slice la ln lc, .slice pa pn pc])) w' T lm fm va vn vc la ln lc pa pn pc := by
  have q : ∀ b, b ∈ [cx] → b ∈ L := by simpa using C.hcx
  exact ⟨rfl, (h.th.chg hc q).closed hs, h.st.later hc (by simpa using C.l2), h.rd.chg hc (by simpa using C.n2.symm) (fun b hb hm => C.n5 (by simp at hm; subst hm; exact hb)), h.mp.same mrR_fits (h.fz.same (Step.of_chg hc) q) hc.size, (h.fz.step (Step.of_chg hc)).closed hs, h.lat, h.prg⟩

end Go.Proofs.Ytmcjklicepaiaaa
