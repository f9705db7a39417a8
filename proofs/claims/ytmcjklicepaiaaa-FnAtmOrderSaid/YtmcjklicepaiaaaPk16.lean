/-
 Texts of this claim laid together: DBox BusAt Bools Mem MemIn UniMem Atm Tlm.
-/
import Derived.Test.YtmcjklicepaiaaaProg
import Derived.Test.YtmcjklicepaiaaaPk01
import Derived.Test.YtmcjklicepaiaaaPk06
import Derived.Test.YtmcjklicepaiaaaPk02
import Derived.Test.YtmcjklicepaiaaaPk03
import Derived.WalkSmall
import Derived.Test.YtmcjklicepaiaaaPk10
import Derived.Test.YtmcjklicepaiaaaPk11
import Derived.Deep.QuietTactic
import Derived.BigQuiet
import Derived.OwnWalk
import Derived.KernelRfl
import Derived.Test.YtmcjklicepaiaaaPk05
set_option linter.unusedVariables false
set_option linter.unusedSimpArgs false
namespace Go.Proofs.Ytmcjklicepaiaaa
open Go.RowKit Go.ChangeShapes Go.WideShapes
def IntC (x : Int) : List Value := [.int .i64 x]
theorem IntC_len (x : Int) : (IntC x).length = 1 := rfl
abbrev IntRow := OwnR 1 IntC 3
theorem intRow_reads {w : World} {base : Nat} {v : Value} {l : List Int} (h : IntRow base w v l) : ∃ fp, SlR 1 intR w l v fp ∧ (∀ b, b ∈ fp -> base <= b) ∧ fp.Nodup ∧ Free fp w := OwnR.reads IntC_len h
theorem setSame {w : World} {b j : Nat} {u : Value} (v : Value) (h : w.cell? ⟨b, j, none⟩ = some u) : (w.setCell ⟨b, j, none⟩ v).cell? ⟨b, j, none⟩ = some v := World.cell?_setCell_same _ _ _ h
theorem setOther {w : World} {b i j : Nat} {u : Value} (v : Value) (hij : i ≠ j) (h : w.cell? ⟨b, j, none⟩ = some u) : (w.setCell ⟨b, i, none⟩ v).cell? ⟨b, j, none⟩ = some u := (World.cell?_setCell_other _ _ _ _ (fun e => hij (by injection e))).trans h
theorem own_lt {w : World} {base : Nat} {v : Value} {l : List Int} (h : IntRow base w v l) {g : Nat} (e : v.ownBlock = some g) : base <= g ∧ g < w.heap.size := World.ownsRow.lt h g e
structure Low (rb B : Nat) (a b : World) : Prop where
 le : a.heap.size <= B
 chg : Chg [rb] a b
theorem Low.step {rb B : Nat} {a b d : World} {fp : List Nat} (h : Low rb B a b) (c : Chg fp b d) (hf : ∀ k, k ∈ fp -> k = rb ∨ B <= k) : Low rb B a d :=
 ⟨h.le, c.os.trans h.chg.os, c.tape.trans h.chg.tape, c.output.trans h.chg.output, Nat.le_trans h.chg.size c.size, fun k hk hn => (c.block k (Nat.lt_of_lt_of_le hk h.chg.size) (fun hm => by
  have := h.le
  rcases hf k hm with e | e
  · exact hn (by simp [e])
  · omega)).trans (h.chg.block k hk hn)⟩
theorem Low.below {rb B : Nat} {a b d : World} (h : Low rb B a b) (c : Below B b d) : Low rb B a d :=
 ⟨h.le, c.os.trans h.chg.os, c.tape.trans h.chg.tape, c.output.trans h.chg.output, Nat.le_trans h.chg.size c.size, fun k hk hn => (c.block k (Nat.lt_of_lt_of_le hk h.le)).trans (h.chg.block k hk hn)⟩
def IsBP (P : Bool -> Prop) (v : Value) : Prop := ∃ b : Bool, v = .bool b ∧ P b
theorem setFar {w : World} {g j b i : Nat} {v : Value} (u : Value) (hne : g ≠ b) (h : w.cell? ⟨b, i, none⟩ = some v) : (w.setCell ⟨g, j, none⟩ u).cell? ⟨b, i, none⟩ = some v := (World.cell?_setCell_other _ _ _ _ (fun e => hne (by injection e))).trans h
theorem alloc1_free (w : World) (A : Array Value) (T : TypeId) (i : Nat) : (w.alloc (.cells A T)).frozen? ⟨w.heap.size, i, none⟩ = false := World.frozen?_alloc_at _ _ _ _ rfl
theorem put3_0 {w : World} {b : Nat} {u : Value} (r s t : Value) (h : w.cell? ⟨b, 0, none⟩ = some u) : (((w.setCell ⟨b, 0, none⟩ r).setCell ⟨b, 1, none⟩ s).setCell ⟨b, 2, none⟩ t).cell? ⟨b, 0, none⟩ = some r := setOther _ (by decide) (setOther _ (by decide) (setSame _ h))
theorem put3_1 {w : World} {b : Nat} {u : Value} (r s t : Value) (h : w.cell? ⟨b, 1, none⟩ = some u) : (((w.setCell ⟨b, 0, none⟩ r).setCell ⟨b, 1, none⟩ s).setCell ⟨b, 2, none⟩ t).cell? ⟨b, 1, none⟩ = some s := setOther _ (by decide) (setSame _ (setOther _ (by decide) h))
theorem put3_2 {w : World} {b : Nat} {u : Value} (r s t : Value) (h : w.cell? ⟨b, 2, none⟩ = some u) : (((w.setCell ⟨b, 0, none⟩ r).setCell ⟨b, 1, none⟩ s).setCell ⟨b, 2, none⟩ t).cell? ⟨b, 2, none⟩ = some t := setSame _ (setOther _ (by decide) (setOther _ (by decide) h))
theorem chg3 (b : Nat) (w : World) (r s t : Value) : Chg [b] w (((w.setCell ⟨b, 0, none⟩ r).setCell ⟨b, 1, none⟩ s).setCell ⟨b, 2, none⟩ t) := ((store_chg _).trans' (store_chg _)).trans' (store_chg _)
def OddB (n : Int) (e : Ending) : Prop := ∃ b : Bool, e = .returned (.bool b) ∧ (9000 <= n -> b = false)
theorem odd_any2 (rb : Nat) (fq : List Nat) (N n : Int) (hn : 1 <= n) (hn' : n <= 1000000) (hN : N <= 1000000000) (w : World) (h : RdAt w rb fq N) :
 Calls Try.prog 73 #[.pointer (some ⟨rb, 0, none⟩), .int .i64 n] w fun e w' => OddB n e ∧ RdAt w' rb fq (N + 1) ∧ Chg [rb] w w' := by
 have H := Lib.hid h
 clear h
 by_cases h9 : n < 9000
 · go_enter Try.func73, Try.ntmps73
   go_wp2_with fail
   refine (pick_any rb fq N n hn hn' hN _ H.out).mono ?_
   rintro e w' ⟨x, rfl, x0, x1, h1, h2⟩
   have H1 := Lib.hid h1
   have H2 := Lib.hid h2
   clear h1 h2
   go_wp2
   go_ret
   exact ⟨⟨_, rfl, fun h => absurd h (by omega)⟩, H1.out, H2.out⟩
 · go_enter Try.func73, Try.ntmps73
   go_wp2
   go_ret
   exact ⟨⟨_, rfl, fun _ => rfl⟩, H.out.mono (by omega), Chg.refl _ _⟩
end Go.Proofs.Ytmcjklicepaiaaa
namespace Go.Proofs.Ytmcjklicepaiaaa
open Go.RowKit Go.WideShapes
theorem reqOk_fit {x : Req} (h : reqOk x = true) : reqFit x := by
 unfold reqOk at h
 simp only [Bool.and_eq_true, inB_true, beq_iff_eq, Bool.or_eq_true] at h
 obtain ⟨h1, h2, h3, h4, h5, -⟩ := h
 refine ⟨h1.1, h1.2, fun _ k1 k3 => ?_⟩
 have e : manyOf x = x.many := by
  unfold manyOf
  have : x.kind = 2 ∨ x.kind = 4 := by omega
  rcases this with q | q <;> simp [writesB, q]
 rw [e] at h4 h5
 exact ⟨h4, h5⟩
variable {L fq fm : List Nat} {rb bx cx : Nat} {T0 T T' : Tab} {w0 w w' : World} {M M' : Int} {lm : List MR} {vm : Value} {la pa : Option Addr} {ln lc pn pc : Nat}
theorem Step.later {fp : List Nat} (s : Step fq T0 w0 T w) (hc : Chg fp w w') (h : ∀ b, b ∈ fp -> w0.heap.size <= b) : Step fq T0 w0 T w' :=
 ⟨hc.os.trans s.os, hc.tape.trans s.tape, hc.output.trans s.output, Nat.le_trans s.size hc.size, fun b hb hn ht => (hc.block b (Nat.lt_of_lt_of_le hb s.size) (fun hm => by have := h b hm; omega)).trans (s.block b hb hn ht), s.ext, s.fresh⟩
structure BusC (L : List Nat) (rb bx cx : Nat) (fq : List Nat) (w0 : World) : Prop where
 hrb : rb ∈ L
 hbx : bx ∈ L
 hcx : cx ∈ L
 hfq : ∀ b, b ∈ fq -> b ∈ L
 n1 : bx ≠ rb
 n2 : cx ≠ rb
 n3 : bx ≠ cx
 n4 : bx ∉ fq
 n5 : cx ∉ fq
 l1 : w0.heap.size <= bx
 l2 : w0.heap.size <= cx
structure BusAt (G : Gd) (L : List Nat) (rb bx cx : Nat) (fq : List Nat) (T0 : Tab) (w0 : World) (M : Int) (lm : List MR) (fm : List Nat) (vm : Value) (T : Tab) (w : World) (la : Option Addr) (ln lc : Nat) (pa : Option Addr) (pn pc : Nat) : Prop where
 th : TH G L T w
 st : Step [rb] T0 w0 T w
 rd : RdAt w rb fq M
 mp : SlR 4 mrR w lm vm fm
 fz : Fz L T w fm
 lat : SlA T 1 la ln lc
 prg : SlA T 4 pa pn pc
 c0 : w.cell? ⟨bx, 0, none⟩ = some vm
 c1 : w.cell? ⟨bx, 1, none⟩ = some (.slice la ln lc)
 c2 : w.cell? ⟨bx, 2, none⟩ = some (.slice pa pn pc)
 fr : ∀ o, w.frozen? ⟨bx, o, none⟩ = false
 r0 : ∃ u, w.cell? ⟨cx, 0, none⟩ = some u
 r1 : ∃ u, w.cell? ⟨cx, 1, none⟩ = some u
 r2 : ∃ u, w.cell? ⟨cx, 2, none⟩ = some u
 fc : ∀ o, w.frozen? ⟨cx, o, none⟩ = false
variable {G : Gd}
theorem BusAt.draw (C : BusC L rb bx cx fq w0) (h : BusAt G L rb bx cx fq T0 w0 M lm fm vm T w la ln lc pa pn pc) (hc : Chg [rb] w w') (hr : RdAt w' rb fq M') : BusAt G L rb bx cx fq T0 w0 M' lm fm vm T w' la ln lc pa pn pc := by
 have q : ∀ b, b ∈ [rb] -> b ∈ L := by simpa using C.hrb
 have n1 : bx ∉ [rb] := by simpa using C.n1
 have n2 : cx ∉ [rb] := by simpa using C.n2
 exact ⟨h.th.chg hc q, h.st.trans (Step.of_chg hc), hr, h.mp.same mrR_fits (h.fz.same (Step.of_chg hc) q) hc.size, h.fz.step (Step.of_chg hc), h.lat, h.prg, keep_cell_chg hc h.c0 n1, keep_cell_chg hc h.c1 n1, keep_cell_chg hc h.c2 n1,
  fun o => (World.frozen?_of_block (hc.block bx (block_of_cell h.c0) n1)).trans (h.fr o), h.r0.imp fun u e => keep_cell_chg hc e n2, h.r1.imp fun u e => keep_cell_chg hc e n2, h.r2.imp fun u e => keep_cell_chg hc e n2,
  fun o => (World.frozen?_of_block (hc.block cx (h.th.old cx C.hcx) n2)).trans (h.fc o)⟩
theorem BusAt.step (C : BusC L rb bx cx fq w0) (h : BusAt G L rb bx cx fq T0 w0 M lm fm vm T w la ln lc pa pn pc) (t : TH G L T' w') (s : Step [] T w T' w') : BusAt G L rb bx cx fq T0 w0 M lm fm vm T' w' la ln lc pa pn pc := by
 have tb := h.th.rd bx C.hbx
 have tc := h.th.rd cx C.hcx
 exact ⟨t, h.st.trans (s.mono (by simp)), h.rd.step s (h.th.rd rb C.hrb) (fun b hb => h.th.rd b (C.hfq b hb)) rfl, h.mp.same mrR_fits (h.fz.same s (by simp)) s.size, h.fz.step s, h.lat.ext s.ext, h.prg.ext s.ext, s.cell h.c0 (by simp) tb, s.cell h.c1 (by simp) tb, s.cell h.c2 (by simp) tb,
  fun o => (World.frozen?_of_block (s.block bx (block_of_cell h.c0) (by simp) tb)).trans (h.fr o), h.r0.imp fun u e => s.cell e (by simp) tc, h.r1.imp fun u e => s.cell e (by simp) tc, h.r2.imp fun u e => s.cell e (by simp) tc,
  fun o => (World.frozen?_of_block (s.block cx (h.th.old cx C.hcx) (by simp) tc)).trans (h.fc o)⟩
theorem BusAt.below (C : BusC L rb bx cx fq w0) (h : BusAt G L rb bx cx fq T0 w0 M lm fm vm T w la ln lc pa pn pc) (hb : Below w.heap.size w w') : BusAt G L rb bx cx fq T0 w0 M lm fm vm T w' la ln lc pa pn pc :=
 h.step C (h.th.below hb) (Step.of_below [] hb)
theorem BusAt.mono (h : BusAt G L rb bx cx fq T0 w0 M lm fm vm T w la ln lc pa pn pc) (hm : M <= M') : BusAt G L rb bx cx fq T0 w0 M' lm fm vm T w la ln lc pa pn pc := { h with rd := h.rd.mono hm }
theorem BusAt.setLat (C : BusC L rb bx cx fq w0) (h : BusAt G L rb bx cx fq T0 w0 M lm fm vm T w la ln lc pa pn pc) {la' : Option Addr} {ln' lc' : Nat} (hA : SlA T 1 la' ln' lc') : BusAt G L rb bx cx fq T0 w0 M lm fm vm T (w.setCell ⟨bx, 1, none⟩ (.slice la' ln' lc')) la' ln' lc' pa pn pc := by
 have hc : Chg [bx] w (w.setCell ⟨bx, 1, none⟩ (.slice la' ln' lc')) := store_chg _
 have q : ∀ b, b ∈ [bx] -> b ∈ L := by simpa using C.hbx
 exact ⟨h.th.chg hc q, h.st.later hc (by simpa using C.l1), h.rd.chg hc (by simpa using C.n1.symm) (fun b hb hm => C.n4 (by simp at hm; subst hm; exact hb)), h.mp.same mrR_fits (h.fz.same (Step.of_chg hc) q) hc.size, h.fz.step (Step.of_chg hc), hA, h.prg, setOther _ (by decide) h.c0, setSame _ h.c1, setOther _ (by decide) h.c2,
  fun o => (World.frozen?_setCell ..).trans (h.fr o), h.r0.imp fun u e => setFar _ C.n3 e, h.r1.imp fun u e => setFar _ C.n3 e, h.r2.imp fun u e => setFar _ C.n3 e, fun o => (World.frozen?_setCell ..).trans (h.fc o)⟩
theorem BusAt.setPrg (C : BusC L rb bx cx fq w0) (h : BusAt G L rb bx cx fq T0 w0 M lm fm vm T w la ln lc pa pn pc) {pa' : Option Addr} {pn' pc' : Nat} (hA : SlA T 4 pa' pn' pc') : BusAt G L rb bx cx fq T0 w0 M lm fm vm T (w.setCell ⟨bx, 2, none⟩ (.slice pa' pn' pc')) la ln lc pa' pn' pc' := by
 have hc : Chg [bx] w (w.setCell ⟨bx, 2, none⟩ (.slice pa' pn' pc')) := store_chg _
 have q : ∀ b, b ∈ [bx] -> b ∈ L := by simpa using C.hbx
 exact ⟨h.th.chg hc q, h.st.later hc (by simpa using C.l1), h.rd.chg hc (by simpa using C.n1.symm) (fun b hb hm => C.n4 (by simp at hm; subst hm; exact hb)), h.mp.same mrR_fits (h.fz.same (Step.of_chg hc) q) hc.size, h.fz.step (Step.of_chg hc), h.lat, hA, setOther _ (by decide) h.c0, setOther _ (by decide) h.c1, setSame _ h.c2,
  fun o => (World.frozen?_setCell ..).trans (h.fr o), h.r0.imp fun u e => setFar _ C.n3 e, h.r1.imp fun u e => setFar _ C.n3 e, h.r2.imp fun u e => setFar _ C.n3 e, fun o => (World.frozen?_setCell ..).trans (h.fc o)⟩
theorem BusAt.setMap (C : BusC L rb bx cx fq w0) (h : BusAt G L rb bx cx fq T0 w0 M lm fm vm T w la ln lc pa pn pc) {lm' : List MR} {fm' : List Nat} {vm' : Value} (hm : SlR 4 mrR w lm' vm' fm') (hf : Fz L T w fm') : BusAt G L rb bx cx fq T0 w0 M lm' fm' vm' T (w.setCell ⟨bx, 0, none⟩ vm') la ln lc pa pn pc := by
 have hc : Chg [bx] w (w.setCell ⟨bx, 0, none⟩ vm') := store_chg _
 have q : ∀ b, b ∈ [bx] -> b ∈ L := by simpa using C.hbx
 exact ⟨h.th.chg hc q, h.st.later hc (by simpa using C.l1), h.rd.chg hc (by simpa using C.n1.symm) (fun b hb hm => C.n4 (by simp at hm; subst hm; exact hb)), hm.same mrR_fits (hf.same (Step.of_chg hc) q) hc.size, hf.step (Step.of_chg hc), h.lat, h.prg, setSame _ h.c0, setOther _ (by decide) h.c1, setOther _ (by decide) h.c2,
  fun o => (World.frozen?_setCell ..).trans (h.fr o), h.r0.imp fun u e => setFar _ C.n3 e, h.r1.imp fun u e => setFar _ C.n3 e, h.r2.imp fun u e => setFar _ C.n3 e, fun o => (World.frozen?_setCell ..).trans (h.fc o)⟩
structure BusPost (G : Gd) (L : List Nat) (rb : Nat) (fq : List Nat) (T0 : Tab) (w0 : World) (M : Int) (e : Ending) (w : World) (T : Tab) (lm : List MR) (fm : List Nat) (va : Option Addr) (vn vc : Nat) (la : Option Addr) (ln lc : Nat) (pa : Option Addr) (pn pc : Nat) : Prop where
 ret : e = .returned (.agg #[.slice va vn vc, .slice la ln lc, .slice pa pn pc])
 th : TH G L T w
 st : Step [rb] T0 w0 T w
 rd : RdAt w rb fq M
 mp : SlR 4 mrR w lm (.slice va vn vc) fm
 fz : Fz L T w fm
 lat : SlA T 1 la ln lc
 prg : SlA T 4 pa pn pc
theorem BusAt.done {L' : List Nat} {va : Option Addr} {vn vc : Nat} (C : BusC L rb bx cx fq w0) (h : BusAt G L rb bx cx fq T0 w0 M lm fm (.slice va vn vc) T w la ln lc pa pn pc) (hs : ∀ b, b ∈ L' -> b ∈ L) (hc : Chg [cx] w w') : BusPost G L' rb fq T0 w0 M (.returned (.agg #[.slice va vn vc, .slice la ln lc, .slice pa pn pc])) w' T lm fm va vn vc la ln lc pa pn pc := by
 have q : ∀ b, b ∈ [cx] -> b ∈ L := by simpa using C.hcx
 exact ⟨rfl, (h.th.chg hc q).closed hs, h.st.later hc (by simpa using C.l2), h.rd.chg hc (by simpa using C.n2.symm) (fun b hb hm => C.n5 (by simp at hm; subst hm; exact hb)), h.mp.same mrR_fits (h.fz.same (Step.of_chg hc) q) hc.size, (h.fz.step (Step.of_chg hc)).closed hs, h.lat, h.prg⟩
end Go.Proofs.Ytmcjklicepaiaaa
namespace Go.Proofs.Ytmcjklicepaiaaa
open Go.RowKit
end Go.Proofs.Ytmcjklicepaiaaa
namespace Go.Proofs.Ytmcjklicepaiaaa
open Go.RowKit
theorem sMemNew_any (w : World) :
 Calls Try.prog 132 #[] w fun e w' => ∃ v fp, e = .returned (.agg #[v]) ∧ IntS w' (List.replicate 64 0) v fp ∧ New fp w w' ∧ Below w.heap.size w w' := by
 obtain ⟨i0, hi, hz0, hz1, hz2⟩ := info_parts infoInt
 go_enter Try.func132, Try.ntmps132
 go_wp2_with (at_make; refine wpList_make_full _ rfl _ _ 24 rfl (w.heap.size + 1) 3 i0 (.int .i64 0) 1 Try.underlying24 hi hz0 hz1 _ _ _ _ 64 rfl rfl rfl rfl (by rw [hz2]; omega) (by unfold maxLen; omega) (by simp) ?_; intro w1 hown hgr; have hb := below_of_grown hgr; obtain ⟨ru1, ru2⟩ := rules_below hb; have HO := Lib.hid hown; have HB := Lib.hid hb; clear hown hgr hb)
 have hb := HB.out
 have ho : w1.ownsRow (w.heap.size + 1) 3 1 (.slice (some ⟨w.heap.size + 1, 0, none⟩) 64 64) 64 ((List.replicate 64 (0 : Int)).map (Value.int .i64)) := by
  have h := HO.out
  rw [show (madeCells (Value.int .i64 0).cells (64 * 1)).toList = (List.replicate 64 (0 : Int)).map (Value.int .i64) from by simp [Value.cells, toList_madeCells_one]] at h
  simpa using h
 obtain ⟨fp, g1, g2, g3, g4⟩ := IntS.of_owns ho
 have hc : w1.cell? ⟨w.heap.size, 0, none⟩ = some (.slice none 0 0) := by rw [ru1 _ _ (by simp), World.cell?_alloc_at _ _ _ _ rfl]; rfl
 have hB : Below w.heap.size w (w1.setCell ⟨w.heap.size, 0, none⟩ (.slice (some ⟨w.heap.size + 1, 0, none⟩) 64 64)) := (((Below.refl _ _).alloc (Nat.le_refl _) _).trans (hb.mono (by simp))).setCell (Nat.le_refl _) _
 have hs : Same fp w1 (w1.setCell ⟨w.heap.size, 0, none⟩ (.slice (some ⟨w.heap.size + 1, 0, none⟩) 64 64)) := fun b hb' => Below.heap_setCell _ _ _ _ (by have := g2 b hb'; simp; omega)
 exact bodyPost_ret (v := .agg #[.slice (some ⟨w.heap.size + 1, 0, none⟩) 64 64]) (by simp [results, Try.results132, go_sem, World.cell?_setCell_same _ _ _ hc]) rfl
  ⟨_, fp, rfl, g1.same intR_fits hs (by simp), ⟨fun b hb' => by have := g2 b hb'; omega, g3, g4.same hs⟩, hB⟩
theorem iMemNew_any (w : World) :
 Calls Try.prog 129 #[] w fun e w' => ∃ v fp, e = .returned (.agg #[v]) ∧ IntS w' (List.replicate 64 0) v fp ∧ New fp w w' ∧ Below w.heap.size w w' := by
 obtain ⟨i0, hi, hz0, hz1, hz2⟩ := info_parts infoInt
 go_enter Try.func129, Try.ntmps129
 go_wp2_with (at_make; refine wpList_make_full _ rfl _ _ 24 rfl (w.heap.size + 1) 3 i0 (.int .i64 0) 1 Try.underlying24 hi hz0 hz1 _ _ _ _ 64 rfl rfl rfl rfl (by rw [hz2]; omega) (by unfold maxLen; omega) (by simp) ?_; intro w1 hown hgr; have hb := below_of_grown hgr; obtain ⟨ru1, ru2⟩ := rules_below hb; have HO := Lib.hid hown; have HB := Lib.hid hb; clear hown hgr hb)
 have hb := HB.out
 have ho : w1.ownsRow (w.heap.size + 1) 3 1 (.slice (some ⟨w.heap.size + 1, 0, none⟩) 64 64) 64 ((List.replicate 64 (0 : Int)).map (Value.int .i64)) := by
  have h := HO.out
  rw [show (madeCells (Value.int .i64 0).cells (64 * 1)).toList = (List.replicate 64 (0 : Int)).map (Value.int .i64) from by simp [Value.cells, toList_madeCells_one]] at h
  simpa using h
 obtain ⟨fp, g1, g2, g3, g4⟩ := IntS.of_owns ho
 have hc : w1.cell? ⟨w.heap.size, 0, none⟩ = some (.slice none 0 0) := by rw [ru1 _ _ (by simp), World.cell?_alloc_at _ _ _ _ rfl]; rfl
 have hB : Below w.heap.size w (w1.setCell ⟨w.heap.size, 0, none⟩ (.slice (some ⟨w.heap.size + 1, 0, none⟩) 64 64)) := (((Below.refl _ _).alloc (Nat.le_refl _) _).trans (hb.mono (by simp))).setCell (Nat.le_refl _) _
 have hs : Same fp w1 (w1.setCell ⟨w.heap.size, 0, none⟩ (.slice (some ⟨w.heap.size + 1, 0, none⟩) 64 64)) := fun b hb' => Below.heap_setCell _ _ _ _ (by have := g2 b hb'; simp; omega)
 exact bodyPost_ret (v := .agg #[.slice (some ⟨w.heap.size + 1, 0, none⟩) 64 64]) (by simp [results, Try.results129, go_sem, World.cell?_setCell_same _ _ _ hc]) rfl
  ⟨_, fp, rfl, g1.same intR_fits hs (by simp), ⟨fun b hb' => by have := g2 b hb'; omega, g3, g4.same hs⟩, hB⟩
end Go.Proofs.Ytmcjklicepaiaaa
namespace Go.Proofs.Ytmcjklicepaiaaa
open Go.RowKit Go.ChangeShapes
end Go.Proofs.Ytmcjklicepaiaaa
namespace Go.Proofs.Ytmcjklicepaiaaa
open Go.RowKit
end Go.Proofs.Ytmcjklicepaiaaa
namespace Go.Proofs.Ytmcjklicepaiaaa
open Go.RowKit Go.ChangeShapes
structure Atm where
 mem : (List Int)
 holds : List Int
 deriving DecidableEq
end Go.Proofs.Ytmcjklicepaiaaa
namespace Go.Proofs.Ytmcjklicepaiaaa
open Go.RowKit Go.ChangeShapes
structure Tlm where
 atm : Atm
 asked : List Int
 wait : List Job
 done : List Job
 told : List Job
 deriving DecidableEq
end Go.Proofs.Ytmcjklicepaiaaa
