/-
  Texts of this claim laid together: DBox BusAt Bools Mem MemIn UniMem Atm Tlm.
-/
import Derived.Test.YtmcjklicepaiaaaProg
import Derived.Test.YtmcjklicepaiaaaPk01
import Derived.Test.YtmcjklicepaiaaaPk08
import Derived.Test.YtmcjklicepaiaaaPk03
import Derived.Test.YtmcjklicepaiaaaPk02
import Derived.Test.YtmcjklicepaiaaaPk05
import Derived.WalkSmall
import Derived.Test.YtmcjklicepaiaaaPk12
import Derived.Test.YtmcjklicepaiaaaPk13
import Derived.Deep.QuietTactic
import Derived.BigQuiet
import Derived.OwnWalk
import Derived.KernelRfl
import Derived.Test.YtmcjklicepaiaaaPk06
namespace Go.Proofs.Ytmcjklicepaiaaa
set_option linter.unusedVariables false
set_option linter.unusedSimpArgs false
open Go.RowKit Go.ChangeShapes Go.WideShapes

def IntC (x : Int) : List Value := [.int .i64 x]
theorem IntC_len (x : Int) : (IntC x).length = 1 := rfl
abbrev IntRow := OwnR 1 IntC 3
theorem intRow_reads {w : World} {base : Nat} {v : Value} {l : List Int} (h : IntRow base w v l) : ∃ fp, SlR 1 intR w l v fp ∧ (∀ b, b ∈ fp → base ≤ b) ∧ fp.Nodup ∧ Free fp w := OwnR.reads IntC_len h


theorem setSame {w : World} {b j : Nat} {u : Value} (v : Value) (h : w.cell? ⟨b, j, none⟩ = some u) : (w.setCell ⟨b, j, none⟩ v).cell? ⟨b, j, none⟩ = some v := World.cell?_setCell_same _ _ _ h
theorem setOther {w : World} {b i j : Nat} {u : Value} (v : Value) (hij : i ≠ j) (h : w.cell? ⟨b, j, none⟩ = some u) : (w.setCell ⟨b, i, none⟩ v).cell? ⟨b, j, none⟩ = some u := (World.cell?_setCell_other _ _ _ _ (fun e => hij (by injection e))).trans h

theorem own_lt {w : World} {base : Nat} {v : Value} {l : List Int} (h : IntRow base w v l) {g : Nat} (e : v.ownBlock = some g) : base ≤ g ∧ g < w.heap.size := World.ownsRow.lt h g e

/-- Of what was there (all below B) nothing turns but the reader. -/
structure Low (rb B : Nat) (a b : World) : Prop where
  le : a.heap.size ≤ B
  chg : Chg [rb] a b
theorem Low.step {rb B : Nat} {a b d : World} {fp : List Nat} (h : Low rb B a b) (c : Chg fp b d) (hf : ∀ k, k ∈ fp → k = rb ∨ B ≤ k) : Low rb B a d :=
  ⟨h.le, c.os.trans h.chg.os, c.tape.trans h.chg.tape, c.output.trans h.chg.output, Nat.le_trans h.chg.size c.size, fun k hk hn => (c.block k (Nat.lt_of_lt_of_le hk h.chg.size) (fun hm => by
    have := h.le
    rcases hf k hm with e | e
    · exact hn (by simp [e])
    · omega)).trans (h.chg.block k hk hn)⟩
theorem Low.below {rb B : Nat} {a b d : World} (h : Low rb B a b) (c : Below B b d) : Low rb B a d :=
  ⟨h.le, c.os.trans h.chg.os, c.tape.trans h.chg.tape, c.output.trans h.chg.output, Nat.le_trans h.chg.size c.size, fun k hk hn => (c.block k (Nat.lt_of_lt_of_le hk h.le)).trans (h.chg.block k hk hn)⟩
/-- It is a bool that is so. -/
def IsBP (P : Bool → Prop) (v : Value) : Prop := ∃ b : Bool, v = .bool b ∧ P b
/-- It is a bool. -/
def IsB (v : Value) : Prop := ∃ b : Bool, v = .bool b


/-- a row of the call's own reads so, in its own block -/
theorem OwnR.readsB {α : Type} {K : Nat} {c : α → List Value} {e : TypeId} {base : Nat} {w : World} {v : Value} {l : List α} (hk : ∀ x, (c x).length = K) (h : OwnR K c e base w v l) :
    ∃ fp, SlR K (fun _ x cs fp => cs = c x ∧ fp = []) w l v fp ∧ (∀ b, b ∈ fp → v.ownBlock = some b) ∧ fp.Nodup ∧ Free fp w := by
  have h0 := h
  obtain ⟨hl, ⟨rfl, h1⟩ | ⟨g, cap, cur, rfl, hb, hg, hnc, hcm, hcs, htake⟩⟩ := h
  · obtain rfl : l = [] := by simpa using h1
    exact ⟨[], ⟨none, 0, 0, rfl, rfl, Nat.le_refl _, by simp, .inl ⟨rfl, rfl⟩⟩, by simp, List.nodup_nil, fun b hb => by simp at hb⟩
  · have hgl : g < w.heap.size := by
      rcases Nat.lt_or_ge g w.heap.size with h | h
      · exact h
      · simp [Array.getElem?_eq_none h] at hg
    refine ⟨[g], ⟨_, _, cap, rfl, rfl, hnc, hcm, .inr ⟨g, 0, List.replicate l.length [], rfl, hgl, by simp, by simp, fun i hi h' => ⟨c l[i], ⟨rfl, by simp⟩, fun j hj => ?_⟩⟩⟩, fun b hb => (by have e : b = g := (by simpa using hb); rw [e]; rfl), by simp, ?_⟩
    · have := OwnR.cell hk h0 hi hj
      rwa [Nat.zero_add]
    · intro b hb' o
      obtain rfl : b = g := by simpa using hb'
      exact frozen_of_row w b o cur e hg

theorem setFar {w : World} {g j b i : Nat} {v : Value} (u : Value) (hne : g ≠ b) (h : w.cell? ⟨b, i, none⟩ = some v) : (w.setCell ⟨g, j, none⟩ u).cell? ⟨b, i, none⟩ = some v := (World.cell?_setCell_other _ _ _ _ (fun e => hne (by injection e))).trans h

theorem alloc1_free (w : World) (A : Array Value) (T : TypeId) (i : Nat) : (w.alloc (.cells A T)).frozen? ⟨w.heap.size, i, none⟩ = false := World.frozen?_alloc_at _ _ _ _ rfl

theorem put3_0 {w : World} {b : Nat} {u : Value} (r s t : Value) (h : w.cell? ⟨b, 0, none⟩ = some u) : (((w.setCell ⟨b, 0, none⟩ r).setCell ⟨b, 1, none⟩ s).setCell ⟨b, 2, none⟩ t).cell? ⟨b, 0, none⟩ = some r := setOther _ (by decide) (setOther _ (by decide) (setSame _ h))

theorem put3_1 {w : World} {b : Nat} {u : Value} (r s t : Value) (h : w.cell? ⟨b, 1, none⟩ = some u) : (((w.setCell ⟨b, 0, none⟩ r).setCell ⟨b, 1, none⟩ s).setCell ⟨b, 2, none⟩ t).cell? ⟨b, 1, none⟩ = some s := setOther _ (by decide) (setSame _ (setOther _ (by decide) h))

theorem put3_2 {w : World} {b : Nat} {u : Value} (r s t : Value) (h : w.cell? ⟨b, 2, none⟩ = some u) : (((w.setCell ⟨b, 0, none⟩ r).setCell ⟨b, 1, none⟩ s).setCell ⟨b, 2, none⟩ t).cell? ⟨b, 2, none⟩ = some t := setSame _ (setOther _ (by decide) (setOther _ (by decide) h))

theorem chg3 (b : Nat) (w : World) (r s t : Value) : Chg [b] w (((w.setCell ⟨b, 0, none⟩ r).setCell ⟨b, 1, none⟩ s).setCell ⟨b, 2, none⟩ t) := ((store_chg _).trans' (store_chg _)).trans' (store_chg _)

/-- It returns a bool; of one in nine thousand and more, no. -/
def OddB (n : Int) (e : Ending) : Prop := ∃ b : Bool, e = .returned (.bool b) ∧ (9000 ≤ n → b = false)

theorem odd_any2 (rb : Nat) (fq : List Nat) (N n : Int) (hn : 1 ≤ n) (hn' : n ≤ 1000000) (hN : N ≤ 1000000000) (w : World) (h : RdAt w rb fq N) :
    Calls Try.prog 73 #[.pointer (some ⟨rb, 0, none⟩), .int .i64 n] w fun e w' => OddB n e ∧ RdAt w' rb fq (N + 1) ∧ Chg [rb] w w' := by
  have H := Lib.hid h
  clear h
  by_cases h9 : n < 9000
  · go_enter Try.func73, Try.ntmps73
    go_wp2_with fail
    refine (pick_any rb fq N n hn hn' hN _ H.out).mono ?_
    rintro e w' ⟨x, rfl, x0, x1, h1, h2⟩
    have H1 := Lib.hid h1
    have H2 := Lib.hid h2
    clear h1 h2
    go_wp2
    go_ret
    exact ⟨⟨_, rfl, fun h => absurd h (by omega)⟩, H1.out, H2.out⟩
  · go_enter Try.func73, Try.ntmps73
    go_wp2
    go_ret
    exact ⟨⟨_, rfl, fun _ => rfl⟩, H.out.mono (by omega), Chg.refl _ _⟩

end Go.Proofs.Ytmcjklicepaiaaa

namespace Go.Proofs.Ytmcjklicepaiaaa
set_option linter.unusedVariables false
set_option linter.unusedSimpArgs false
open Go.RowKit Go.WideShapes

theorem reqOk_fit {x : Req} (h : reqOk x = true) : reqFit x := by
  unfold reqOk at h
  simp only [Bool.and_eq_true, inB_true, beq_iff_eq, Bool.or_eq_true] at h
  obtain ⟨h1, h2, h3, h4, h5, -⟩ := h
  refine ⟨h1.1, h1.2, fun _ k1 k3 => ?_⟩
  have e : manyOf x = x.many := by
    unfold manyOf
    have : x.kind = 2 ∨ x.kind = 4 := by omega
    rcases this with q | q <;> simp [writesB, q]
  rw [e] at h4 h5
  exact ⟨h4, h5⟩

variable {L fq fm : List Nat} {rb bx cx : Nat} {T0 T T' : Tab} {w0 w w' : World} {M M' : Int} {lm : List MR} {vm : Value} {la pa : Option Addr} {ln lc pn pc : Nat}

theorem Step.later {fp : List Nat} (s : Step fq T0 w0 T w) (hc : Chg fp w w') (h : ∀ b, b ∈ fp → w0.heap.size ≤ b) : Step fq T0 w0 T w' :=
  ⟨hc.os.trans s.os, hc.tape.trans s.tape, hc.output.trans s.output, Nat.le_trans s.size hc.size, fun b hb hn ht => (hc.block b (Nat.lt_of_lt_of_le hb s.size) (fun hm => by have := h b hm; omega)).trans (s.block b hb hn ht), s.ext, s.fresh⟩

/-- what holds throughout -/
structure BusC (L : List Nat) (rb bx cx : Nat) (fq : List Nat) (w0 : World) : Prop where
  hrb : rb ∈ L
  hbx : bx ∈ L
  hcx : cx ∈ L
  hfq : ∀ b, b ∈ fq → b ∈ L
  n1 : bx ≠ rb
  n2 : cx ≠ rb
  n3 : bx ≠ cx
  n4 : bx ∉ fq
  n5 : cx ∉ fq
  l1 : w0.heap.size ≤ bx
  l2 : w0.heap.size ≤ cx

/-- the box, and all that it leads to -/
structure BusAt (G : Gd) (L : List Nat) (rb bx cx : Nat) (fq : List Nat) (T0 : Tab) (w0 : World) (M : Int) (lm : List MR) (fm : List Nat) (vm : Value) (T : Tab) (w : World) (la : Option Addr) (ln lc : Nat) (pa : Option Addr) (pn pc : Nat) : Prop where
  th : TH G L T w
  st : Step [rb] T0 w0 T w
  rd : RdAt w rb fq M
  mp : SlR 4 mrR w lm vm fm
  fz : Fz L T w fm
  lat : SlA T 1 la ln lc
  prg : SlA T 4 pa pn pc
  c0 : w.cell? ⟨bx, 0, none⟩ = some vm
  c1 : w.cell? ⟨bx, 1, none⟩ = some (.slice la ln lc)
  c2 : w.cell? ⟨bx, 2, none⟩ = some (.slice pa pn pc)
  fr : ∀ o, w.frozen? ⟨bx, o, none⟩ = false
  r0 : ∃ u, w.cell? ⟨cx, 0, none⟩ = some u
  r1 : ∃ u, w.cell? ⟨cx, 1, none⟩ = some u
  r2 : ∃ u, w.cell? ⟨cx, 2, none⟩ = some u
  fc : ∀ o, w.frozen? ⟨cx, o, none⟩ = false

variable {G : Gd}

theorem BusAt.draw (C : BusC L rb bx cx fq w0) (h : BusAt G L rb bx cx fq T0 w0 M lm fm vm T w la ln lc pa pn pc) (hc : Chg [rb] w w') (hr : RdAt w' rb fq M') : BusAt G L rb bx cx fq T0 w0 M' lm fm vm T w' la ln lc pa pn pc := by
  have q : ∀ b, b ∈ [rb] → b ∈ L := by simpa using C.hrb
  have n1 : bx ∉ [rb] := by simpa using C.n1
  have n2 : cx ∉ [rb] := by simpa using C.n2
  exact ⟨h.th.chg hc q, h.st.trans (Step.of_chg hc), hr, h.mp.same mrR_fits (h.fz.same (Step.of_chg hc) q) hc.size, h.fz.step (Step.of_chg hc), h.lat, h.prg, keep_cell_chg hc h.c0 n1, keep_cell_chg hc h.c1 n1, keep_cell_chg hc h.c2 n1,
    fun o => (World.frozen?_of_block (hc.block bx (block_of_cell h.c0) n1)).trans (h.fr o), h.r0.imp fun u e => keep_cell_chg hc e n2, h.r1.imp fun u e => keep_cell_chg hc e n2, h.r2.imp fun u e => keep_cell_chg hc e n2,
    fun o => (World.frozen?_of_block (hc.block cx (h.th.old cx C.hcx) n2)).trans (h.fc o)⟩
theorem BusAt.step (C : BusC L rb bx cx fq w0) (h : BusAt G L rb bx cx fq T0 w0 M lm fm vm T w la ln lc pa pn pc) (t : TH G L T' w') (s : Step [] T w T' w') : BusAt G L rb bx cx fq T0 w0 M lm fm vm T' w' la ln lc pa pn pc := by
  have tb := h.th.rd bx C.hbx
  have tc := h.th.rd cx C.hcx
  exact ⟨t, h.st.trans (s.mono (by simp)), h.rd.step s (h.th.rd rb C.hrb) (fun b hb => h.th.rd b (C.hfq b hb)) rfl, h.mp.same mrR_fits (h.fz.same s (by simp)) s.size, h.fz.step s, h.lat.ext s.ext, h.prg.ext s.ext, s.cell h.c0 (by simp) tb, s.cell h.c1 (by simp) tb, s.cell h.c2 (by simp) tb,
    fun o => (World.frozen?_of_block (s.block bx (block_of_cell h.c0) (by simp) tb)).trans (h.fr o), h.r0.imp fun u e => s.cell e (by simp) tc, h.r1.imp fun u e => s.cell e (by simp) tc, h.r2.imp fun u e => s.cell e (by simp) tc,
    fun o => (World.frozen?_of_block (s.block cx (h.th.old cx C.hcx) (by simp) tc)).trans (h.fc o)⟩
theorem BusAt.below (C : BusC L rb bx cx fq w0) (h : BusAt G L rb bx cx fq T0 w0 M lm fm vm T w la ln lc pa pn pc) (hb : Below w.heap.size w w') : BusAt G L rb bx cx fq T0 w0 M lm fm vm T w' la ln lc pa pn pc :=
  h.step C (h.th.below hb) (Step.of_below [] hb)
theorem BusAt.mono (h : BusAt G L rb bx cx fq T0 w0 M lm fm vm T w la ln lc pa pn pc) (hm : M ≤ M') : BusAt G L rb bx cx fq T0 w0 M' lm fm vm T w la ln lc pa pn pc := { h with rd := h.rd.mono hm }
/-- the latencies, or the programs, told anew -/
theorem BusAt.setLat (C : BusC L rb bx cx fq w0) (h : BusAt G L rb bx cx fq T0 w0 M lm fm vm T w la ln lc pa pn pc) {la' : Option Addr} {ln' lc' : Nat} (hA : SlA T 1 la' ln' lc') : BusAt G L rb bx cx fq T0 w0 M lm fm vm T (w.setCell ⟨bx, 1, none⟩ (.slice la' ln' lc')) la' ln' lc' pa pn pc := by
  have hc : Chg [bx] w (w.setCell ⟨bx, 1, none⟩ (.slice la' ln' lc')) := store_chg _
  have q : ∀ b, b ∈ [bx] → b ∈ L := by simpa using C.hbx
  exact ⟨h.th.chg hc q, h.st.later hc (by simpa using C.l1), h.rd.chg hc (by simpa using C.n1.symm) (fun b hb hm => C.n4 (by simp at hm; subst hm; exact hb)), h.mp.same mrR_fits (h.fz.same (Step.of_chg hc) q) hc.size, h.fz.step (Step.of_chg hc), hA, h.prg, setOther _ (by decide) h.c0, setSame _ h.c1, setOther _ (by decide) h.c2,
    fun o => (World.frozen?_setCell ..).trans (h.fr o), h.r0.imp fun u e => setFar _ C.n3 e, h.r1.imp fun u e => setFar _ C.n3 e, h.r2.imp fun u e => setFar _ C.n3 e, fun o => (World.frozen?_setCell ..).trans (h.fc o)⟩
theorem BusAt.setPrg (C : BusC L rb bx cx fq w0) (h : BusAt G L rb bx cx fq T0 w0 M lm fm vm T w la ln lc pa pn pc) {pa' : Option Addr} {pn' pc' : Nat} (hA : SlA T 4 pa' pn' pc') : BusAt G L rb bx cx fq T0 w0 M lm fm vm T (w.setCell ⟨bx, 2, none⟩ (.slice pa' pn' pc')) la ln lc pa' pn' pc' := by
  have hc : Chg [bx] w (w.setCell ⟨bx, 2, none⟩ (.slice pa' pn' pc')) := store_chg _
  have q : ∀ b, b ∈ [bx] → b ∈ L := by simpa using C.hbx
  exact ⟨h.th.chg hc q, h.st.later hc (by simpa using C.l1), h.rd.chg hc (by simpa using C.n1.symm) (fun b hb hm => C.n4 (by simp at hm; subst hm; exact hb)), h.mp.same mrR_fits (h.fz.same (Step.of_chg hc) q) hc.size, h.fz.step (Step.of_chg hc), h.lat, hA, setOther _ (by decide) h.c0, setOther _ (by decide) h.c1, setSame _ h.c2,
    fun o => (World.frozen?_setCell ..).trans (h.fr o), h.r0.imp fun u e => setFar _ C.n3 e, h.r1.imp fun u e => setFar _ C.n3 e, h.r2.imp fun u e => setFar _ C.n3 e, fun o => (World.frozen?_setCell ..).trans (h.fc o)⟩
/-- the ranges told anew -/
theorem BusAt.setMap (C : BusC L rb bx cx fq w0) (h : BusAt G L rb bx cx fq T0 w0 M lm fm vm T w la ln lc pa pn pc) {lm' : List MR} {fm' : List Nat} {vm' : Value} (hm : SlR 4 mrR w lm' vm' fm') (hf : Fz L T w fm') : BusAt G L rb bx cx fq T0 w0 M lm' fm' vm' T (w.setCell ⟨bx, 0, none⟩ vm') la ln lc pa pn pc := by
  have hc : Chg [bx] w (w.setCell ⟨bx, 0, none⟩ vm') := store_chg _
  have q : ∀ b, b ∈ [bx] → b ∈ L := by simpa using C.hbx
  exact ⟨h.th.chg hc q, h.st.later hc (by simpa using C.l1), h.rd.chg hc (by simpa using C.n1.symm) (fun b hb hm => C.n4 (by simp at hm; subst hm; exact hb)), hm.same mrR_fits (hf.same (Step.of_chg hc) q) hc.size, hf.step (Step.of_chg hc), h.lat, h.prg, setSame _ h.c0, setOther _ (by decide) h.c1, setOther _ (by decide) h.c2,
    fun o => (World.frozen?_setCell ..).trans (h.fr o), h.r0.imp fun u e => setFar _ C.n3 e, h.r1.imp fun u e => setFar _ C.n3 e, h.r2.imp fun u e => setFar _ C.n3 e, fun o => (World.frozen?_setCell ..).trans (h.fc o)⟩

/-- the heap by kinds after a bus has been drawn: what it leads to, for who calls -/
structure BusPost (G : Gd) (L : List Nat) (rb : Nat) (fq : List Nat) (T0 : Tab) (w0 : World) (M : Int) (e : Ending) (w : World) (T : Tab) (lm : List MR) (fm : List Nat) (va : Option Addr) (vn vc : Nat) (la : Option Addr) (ln lc : Nat) (pa : Option Addr) (pn pc : Nat) : Prop where
  ret : e = .returned (.agg #[.slice va vn vc, .slice la ln lc, .slice pa pn pc])
  th : TH G L T w
  st : Step [rb] T0 w0 T w
  rd : RdAt w rb fq M
  mp : SlR 4 mrR w lm (.slice va vn vc) fm
  fz : Fz L T w fm
  lat : SlA T 1 la ln lc
  prg : SlA T 4 pa pn pc

/-- what is handed back is laid into a box first -/
theorem BusAt.done {L' : List Nat} {va : Option Addr} {vn vc : Nat} (C : BusC L rb bx cx fq w0) (h : BusAt G L rb bx cx fq T0 w0 M lm fm (.slice va vn vc) T w la ln lc pa pn pc) (hs : ∀ b, b ∈ L' → b ∈ L) (hc : Chg [cx] w w') : BusPost G L' rb fq T0 w0 M (.returned (.agg #[.slice va vn vc, .slice la ln lc, .slice pa pn pc])) w' T lm fm va vn vc la ln lc pa pn pc := by
  have q : ∀ b, b ∈ [cx] → b ∈ L := by simpa using C.hcx
  exact ⟨rfl, (h.th.chg hc q).closed hs, h.st.later hc (by simpa using C.l2), h.rd.chg hc (by simpa using C.n2.symm) (fun b hb hm => C.n5 (by simp at hm; subst hm; exact hb)), h.mp.same mrR_fits (h.fz.same (Step.of_chg hc) q) hc.size, (h.fz.step (Step.of_chg hc)).closed hs, h.lat, h.prg⟩

end Go.Proofs.Ytmcjklicepaiaaa

namespace Go.Proofs.Ytmcjklicepaiaaa
set_option linter.unusedVariables false
set_option linter.unusedSimpArgs false
open Go.RowKit

theorem infoBool : (Try.prog.info? 4).map (fun i => (i.zero, i.size, i.bytes)) = some (some (.bool false), 1, 1) := by kernel_rfl

/-- the first k taken over, the others still nought -/
def bpt (l : List Bool) (k : Nat) : List Value := (l.take k).map Value.bool ++ List.replicate (l.length - k) (.bool false)
theorem bpt_len (l : List Bool) (k : Nat) (h : k ≤ l.length) : (bpt l k).length = l.length := by simp [bpt]; omega
theorem bpt_zero (l : List Bool) : bpt l 0 = List.replicate l.length (.bool false) := by simp [bpt]
theorem bpt_all (l : List Bool) (k : Nat) (h : l.length ≤ k) : bpt l k = l.map Value.bool := by simp [bpt, List.take_of_length_le h]; omega
theorem bpt_set (l : List Bool) (k : Nat) (h : k < l.length) : (bpt l k).set k (.bool l[k]) = bpt l (k + 1) := by
  have e : l.length - k = (l.length - (k + 1)) + 1 := by omega
  unfold bpt
  rw [List.set_append_right _ _ (by simp; omega), List.take_succ_eq_append_getElem h, e, List.replicate_succ]
  simp only [List.length_map, List.length_take, Nat.min_eq_left (Nat.le_of_lt h), Nat.sub_self, List.set_cons_zero, List.map_append, List.map_cons, List.map_nil, List.append_assoc, List.singleton_append]

end Go.Proofs.Ytmcjklicepaiaaa

namespace Go.Proofs.Ytmcjklicepaiaaa
set_option linter.unusedVariables false
set_option linter.unusedSimpArgs false
open Go.RowKit

theorem heldR_neg (l : List Int) (k : Int) (h0 : 0 ≤ k) (h : heldR l k < 0) : heldR l k = -1 := by
  by_cases e : l = marks k l.length
  · rw [heldR, if_pos e] at h; omega
  · rw [heldR, if_neg e]
theorem heldR_marks (k : Int) (n : Nat) : heldR (marks k n) k = k + n := by simp [heldR, marks_len]

theorem sMemNew_any (w : World) :
    Calls Try.prog 132 #[] w fun e w' => ∃ v fp, e = .returned (.agg #[v]) ∧ IntS w' (List.replicate 64 0) v fp ∧ New fp w w' ∧ Below w.heap.size w w' := by
  obtain ⟨i0, hi, hz0, hz1, hz2⟩ := info_parts infoInt
  go_enter Try.func132, Try.ntmps132
  go_wp2_with (at_make; refine wpList_make_full _ rfl _ _ 24 rfl (w.heap.size + 1) 3 i0 (.int .i64 0) 1 Try.underlying24 hi hz0 hz1 _ _ _ _ 64 rfl rfl rfl rfl (by rw [hz2]; omega) (by unfold maxLen; omega) (by simp) ?_; intro w1 hown hgr; have hb := below_of_grown hgr; obtain ⟨ru1, ru2⟩ := rules_below hb; have HO := Lib.hid hown; have HB := Lib.hid hb; clear hown hgr hb)
  have hb := HB.out
  have ho : w1.ownsRow (w.heap.size + 1) 3 1 (.slice (some ⟨w.heap.size + 1, 0, none⟩) 64 64) 64 ((List.replicate 64 (0 : Int)).map (Value.int .i64)) := by
    have h := HO.out
    rw [show (madeCells (Value.int .i64 0).cells (64 * 1)).toList = (List.replicate 64 (0 : Int)).map (Value.int .i64) from by simp [Value.cells, toList_madeCells_one]] at h
    simpa using h
  obtain ⟨fp, g1, g2, g3, g4⟩ := IntS.of_owns ho
  have hc : w1.cell? ⟨w.heap.size, 0, none⟩ = some (.slice none 0 0) := by rw [ru1 _ _ (by simp), World.cell?_alloc_at _ _ _ _ rfl]; rfl
  have hB : Below w.heap.size w (w1.setCell ⟨w.heap.size, 0, none⟩ (.slice (some ⟨w.heap.size + 1, 0, none⟩) 64 64)) := (((Below.refl _ _).alloc (Nat.le_refl _) _).trans (hb.mono (by simp))).setCell (Nat.le_refl _) _
  have hs : Same fp w1 (w1.setCell ⟨w.heap.size, 0, none⟩ (.slice (some ⟨w.heap.size + 1, 0, none⟩) 64 64)) := fun b hb' => Below.heap_setCell _ _ _ _ (by have := g2 b hb'; simp; omega)
  exact bodyPost_ret (v := .agg #[.slice (some ⟨w.heap.size + 1, 0, none⟩) 64 64]) (by simp [results, Try.results132, go_sem, World.cell?_setCell_same _ _ _ hc]) rfl
    ⟨_, fp, rfl, g1.same intR_fits hs (by simp), ⟨fun b hb' => by have := g2 b hb'; omega, g3, g4.same hs⟩, hB⟩

theorem iMemNew_any (w : World) :
    Calls Try.prog 129 #[] w fun e w' => ∃ v fp, e = .returned (.agg #[v]) ∧ IntS w' (List.replicate 64 0) v fp ∧ New fp w w' ∧ Below w.heap.size w w' := by
  obtain ⟨i0, hi, hz0, hz1, hz2⟩ := info_parts infoInt
  go_enter Try.func129, Try.ntmps129
  go_wp2_with (at_make; refine wpList_make_full _ rfl _ _ 24 rfl (w.heap.size + 1) 3 i0 (.int .i64 0) 1 Try.underlying24 hi hz0 hz1 _ _ _ _ 64 rfl rfl rfl rfl (by rw [hz2]; omega) (by unfold maxLen; omega) (by simp) ?_; intro w1 hown hgr; have hb := below_of_grown hgr; obtain ⟨ru1, ru2⟩ := rules_below hb; have HO := Lib.hid hown; have HB := Lib.hid hb; clear hown hgr hb)
  have hb := HB.out
  have ho : w1.ownsRow (w.heap.size + 1) 3 1 (.slice (some ⟨w.heap.size + 1, 0, none⟩) 64 64) 64 ((List.replicate 64 (0 : Int)).map (Value.int .i64)) := by
    have h := HO.out
    rw [show (madeCells (Value.int .i64 0).cells (64 * 1)).toList = (List.replicate 64 (0 : Int)).map (Value.int .i64) from by simp [Value.cells, toList_madeCells_one]] at h
    simpa using h
  obtain ⟨fp, g1, g2, g3, g4⟩ := IntS.of_owns ho
  have hc : w1.cell? ⟨w.heap.size, 0, none⟩ = some (.slice none 0 0) := by rw [ru1 _ _ (by simp), World.cell?_alloc_at _ _ _ _ rfl]; rfl
  have hB : Below w.heap.size w (w1.setCell ⟨w.heap.size, 0, none⟩ (.slice (some ⟨w.heap.size + 1, 0, none⟩) 64 64)) := (((Below.refl _ _).alloc (Nat.le_refl _) _).trans (hb.mono (by simp))).setCell (Nat.le_refl _) _
  have hs : Same fp w1 (w1.setCell ⟨w.heap.size, 0, none⟩ (.slice (some ⟨w.heap.size + 1, 0, none⟩) 64 64)) := fun b hb' => Below.heap_setCell _ _ _ _ (by have := g2 b hb'; simp; omega)
  exact bodyPost_ret (v := .agg #[.slice (some ⟨w.heap.size + 1, 0, none⟩) 64 64]) (by simp [results, Try.results129, go_sem, World.cell?_setCell_same _ _ _ hc]) rfl
    ⟨_, fp, rfl, g1.same intR_fits hs (by simp), ⟨fun b hb' => by have := g2 b hb'; omega, g3, g4.same hs⟩, hB⟩


end Go.Proofs.Ytmcjklicepaiaaa

namespace Go.Proofs.Ytmcjklicepaiaaa
set_option linter.unusedVariables false
set_option linter.unusedSimpArgs false
open Go.RowKit Go.ChangeShapes

def memR : Pr (List Int) := fun w x cs fp => ∃ (v : Value) (fq : List Nat), cs = [v] ∧ fp = fq ∧ IntS w x v fq
theorem memR_fits : Fits 1 memR := ⟨fun ⟨v, _, e, _⟩ => by rw [e]; rfl, fun ⟨_, _, _, e, h⟩ => by rw [e]; exact h.lt intR_fits, fun ⟨v, fq, e, e2, h⟩ hs hz => ⟨v, fq, e, e2, h.same intR_fits (by rw [← e2]; exact hs) hz⟩⟩

theorem szMem_ok {l : List Int} (h : 0 ≤ szR 1048576 l.length) : l.length ≤ 1048576 := by unfold szR at h; split at h <;> omega

end Go.Proofs.Ytmcjklicepaiaaa

namespace Go.Proofs.Ytmcjklicepaiaaa
set_option linter.unusedVariables false
set_option linter.unusedSimpArgs false
open Go.RowKit

def mk_ints (k : Int) (l : List Int) : List Int := marks k l.length

def cnt_ints (l : List Int) : Int := (l.length : Int)

theorem cnt_ints_in {l : List Int} (h : sm_ints l) : 0 ≤ cnt_ints l ∧ cnt_ints l ≤ 1048576 := by unfold cnt_ints; unfold sm_ints at h; omega

def sm_Mem (x : List Int) : Prop := sm_ints x

def mk_Mem (k : Int) (x : List Int) : List Int := mk_ints k x

def cnt_Mem (x : List Int) : Int := cnt_ints x

theorem cnt_Mem_in {x : List Int} (h : sm_Mem x) : 0 ≤ cnt_Mem x ∧ cnt_Mem x ≤ 1048576 := cnt_ints_in h

end Go.Proofs.Ytmcjklicepaiaaa

namespace Go.Proofs.Ytmcjklicepaiaaa
set_option linter.unusedVariables false
set_option linter.unusedSimpArgs false
open Go.RowKit Go.ChangeShapes

structure Atm where
  mem : (List Int)
  holds : List Int
  deriving DecidableEq

def atmR : Pr Atm := fun w x cs fp => ∃ (v0 v1 : Value) (fp0 fp1 : List Nat), cs = [v0, v1] ∧ fp = fp0 ++ fp1 ∧ SlR 1 intR w x.mem v0 fp0 ∧ SlR 1 intR w x.holds v1 fp1
theorem atmR_fits : Fits 2 atmR := by
  refine ⟨fun ⟨v0, v1, fp0, fp1, e, e2, g0, g1⟩ => by rw [e]; rfl, fun ⟨v0, v1, fp0, fp1, e, e2, g0, g1⟩ b hb => ?_, fun ⟨v0, v1, fp0, fp1, e, e2, g0, g1⟩ hs hz => ⟨v0, v1, fp0, fp1, e, e2, g0.same intR_fits (hs.mono (fun b hb => by rw [e2]; simp [hb])) hz, g1.same intR_fits (hs.mono (fun b hb => by rw [e2]; simp [hb])) hz⟩⟩
  rw [e2] at hb
  simp only [List.mem_append] at hb
  rcases hb with (hb | hb)
  · exact g0.lt intR_fits b hb
  · exact g1.lt intR_fits b hb

def sm_Atm (x : Atm) : Prop := sm_Mem x.mem ∧ sm_ints x.holds

end Go.Proofs.Ytmcjklicepaiaaa

namespace Go.Proofs.Ytmcjklicepaiaaa
set_option linter.unusedVariables false
set_option linter.unusedSimpArgs false
open Go.RowKit Go.ChangeShapes

structure Tlm where
  atm : Atm
  asked : List Int
  wait : List Job
  done : List Job
  told : List Job
  deriving DecidableEq

def tlmR : Pr Tlm := fun w x cs fp => ∃ (v0 v1 v2 v3 v4 v5 : Value) (fp0 fp1 fp2 fp3 fp4 fp5 : List Nat), cs = [v0, v1, v2, v3, v4, v5] ∧ fp = fp0 ++ fp1 ++ fp2 ++ fp3 ++ fp4 ++ fp5 ∧ SlR 1 intR w x.atm.mem v0 fp0 ∧ SlR 1 intR w x.atm.holds v1 fp1 ∧ SlR 1 intR w x.asked v2 fp2 ∧ SlR 5 jobR w x.wait v3 fp3 ∧ SlR 5 jobR w x.done v4 fp4 ∧ SlR 5 jobR w x.told v5 fp5
theorem tlmR_fits : Fits 6 tlmR := by
  refine ⟨fun ⟨v0, v1, v2, v3, v4, v5, fp0, fp1, fp2, fp3, fp4, fp5, e, e2, g0, g1, g2, g3, g4, g5⟩ => by rw [e]; rfl, fun ⟨v0, v1, v2, v3, v4, v5, fp0, fp1, fp2, fp3, fp4, fp5, e, e2, g0, g1, g2, g3, g4, g5⟩ b hb => ?_, fun ⟨v0, v1, v2, v3, v4, v5, fp0, fp1, fp2, fp3, fp4, fp5, e, e2, g0, g1, g2, g3, g4, g5⟩ hs hz => ⟨v0, v1, v2, v3, v4, v5, fp0, fp1, fp2, fp3, fp4, fp5, e, e2, g0.same intR_fits (hs.mono (fun b hb => by rw [e2]; simp [hb])) hz, g1.same intR_fits (hs.mono (fun b hb => by rw [e2]; simp [hb])) hz, g2.same intR_fits (hs.mono (fun b hb => by rw [e2]; simp [hb])) hz, g3.same jobR_fits (hs.mono (fun b hb => by rw [e2]; simp [hb])) hz, g4.same jobR_fits (hs.mono (fun b hb => by rw [e2]; simp [hb])) hz, g5.same jobR_fits (hs.mono (fun b hb => by rw [e2]; simp [hb])) hz⟩⟩
  rw [e2] at hb
  simp only [List.mem_append] at hb
  rcases hb with (((((hb | hb) | hb) | hb) | hb) | hb)
  · exact g0.lt intR_fits b hb
  · exact g1.lt intR_fits b hb
  · exact g2.lt intR_fits b hb
  · exact g3.lt jobR_fits b hb
  · exact g4.lt jobR_fits b hb
  · exact g5.lt jobR_fits b hb

def sm_Tlm (x : Tlm) : Prop := sm_Atm x.atm ∧ sm_ints x.asked ∧ sm_jobs x.wait ∧ sm_jobs x.done ∧ sm_jobs x.told

end Go.Proofs.Ytmcjklicepaiaaa
