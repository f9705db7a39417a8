/-
 Texts of this claim laid together: THop TS1 BusAt.
-/
import Derived.Test.YtaeiddoccfaheaaGreatPk38
import Derived.Test.YtaeiddoccfaheaaGreatPk24
import Derived.Test.YtaeiddoccfaheaaGreatProg
import Derived.Test.YtaeiddoccfaheaaGreatPk26
import Derived.Test.YtaeiddoccfaheaaGreatPk03
import Derived.WalkSmall
import Derived.Deep.DeepCutAuto
import Derived.Deep.CutBlock
import Derived.Test.YtaeiddoccfaheaaGreatPk25
import Derived.Test.YtaeiddoccfaheaaGreatPk05
import Derived.Test.YtaeiddoccfaheaaGreatPk11
set_option linter.unusedVariables false
set_option linter.unusedSimpArgs false
namespace Go.Proofs.YtaeiddoccfaheaaGreat
open Go.RowKit Go.WideShapes
variable {G : Gd} {rb : Nat} {L : List Nat} {T T' T'' : Tab} {w w' w'' : World}
theorem TH.store {k n i : Nat} {b off : Nat} {v : Value} (h : TH G L T w) (hS : SlT T k (some ⟨b, off, none⟩) n) (hi : i < n) (hk : kK k = 1) (hU : UnitOk G L T w k [v]) :
 (∃ u, w.cell? ⟨b, off + i, none⟩ = some u ∧ UnitOk G L T w k [u]) ∧ w.frozen? ⟨b, off + i, none⟩ = false ∧ ∃ T', TH G L T' (w.setCell ⟨b, off + i, none⟩ v) ∧ Step [] T w T' (w.setCell ⟨b, off + i, none⟩ v) := by
 rcases hS with rfl | ⟨b', o, x, e, hb, rfl, hn⟩
 · omega
 · cases e
   obtain ⟨cs, h1, h2, h3⟩ := h.at' hb rfl hn hi
   rw [hk] at h1
   obtain ⟨u, rfl⟩ : ∃ u, cs = [u] := by
    cases cs with
    | nil => simp at h1
    | cons u r => cases r with
     | nil => exact ⟨u, rfl⟩
     | cons _ _ => simp at h1
   have h30 := h3 0 (by simp)
   simp only [Nat.add_zero, List.getElem_cons_zero, hk, Nat.mul_one] at h30
   have hM : (o + i + 1) * kK x.k <= x.M := Nat.le_trans (Nat.mul_le_mul_right _ (by omega)) (h.fit b x hb)
   obtain ⟨g1, g2⟩ := h.put (q := o + i) (cs := [v]) hb (by omega) (by rw [hk]; rfl) hU hM
   rw [hk, Nat.mul_one] at g1 g2
   rw [hk, Nat.mul_one]
   rw [<- Nat.add_assoc] at g1 g2
   exact ⟨⟨u, h30, h2⟩, h.free b x hb _, _, g1, g2⟩
theorem RdAt.step {fq fp : List Nat} {N : Int} (h : RdAt w rb fq N) (s : Step fp T w T' w') (h1 : T rb = none) (h2 : ∀ b, b ∈ fq -> T b = none) (h3 : fp = []) : RdAt w' rb fq N := by
 subst h3
 have hlt := h.lt
 obtain ⟨l, v, p, h0, hb, hn, hl, hp, p0, p1, hf⟩ := h
 have e : w'.heap[rb]? = w.heap[rb]? := s.block rb hlt (by simp) h1
 exact ⟨l, v, p, s.cell h0 (by simp) h1, hb.same byteR_fits (fun b hbb => s.block b (hb.lt byteR_fits b hbb) (by simp) (h2 b hbb)) s.size, hn, hl, s.cell hp (by simp) h1, p0, p1, (World.frozen?_of_block e).trans hf⟩
theorem RdAt.old {fq : List Nat} {N : Int} (h : RdAt w rb fq N) : ∀ b, b ∈ fq -> b < w.heap.size := by
 obtain ⟨l, v, p, h0, hb, _⟩ := h
 exact hb.lt byteR_fits
theorem Fz.new {fp fq : List Nat} (h : TH G L T w) (hc : Chg fq w w') (hn : ∀ b, b ∈ fp -> w.heap.size <= b) (hlt : ∀ b, b ∈ fp -> b < w'.heap.size) : Fz L T w' fp := fun b hb => by
 refine ⟨?_, fun hm => by have := hn b hb; have := h.old b hm; omega, hlt b hb⟩
 cases e : T b with
 | none => rfl
 | some x => have := h.lt b x e; have := hn b hb; omega
theorem TH.fresh (h : TH G L T w) {b : Nat} (hb : w.heap.size <= b) : T b = none := by
 cases e : T b with
 | none => rfl
 | some x => have := h.lt b x e; omega
end Go.Proofs.YtaeiddoccfaheaaGreat
namespace Go.Proofs.YtaeiddoccfaheaaGreat
open Go.RowKit Go.ChangeShapes Go.WideShapes
theorem SlT.job {G : Gd} {L : List Nat} {T : Tab} {w : World} {a : Option Addr} {n i : Nat} (h : SlT T 3 a n) (hi : i < n) (hT : TH G L T w) : ∃ (b off : Nat) (x : Job) (da : Option Addr) (dn dc : Nat), a = some ⟨b, off, none⟩ ∧
 (∀ j (hj : j < ([.int .i64 x.who, .int .i64 x.n, .int .i64 x.rsp.id, .int .i64 x.rsp.code, .slice da dn dc] : List Value).length), w.cell? ⟨b, off + i * 5 + j, none⟩ = some ([.int .i64 x.who, .int .i64 x.n, .int .i64 x.rsp.id, .int .i64 x.rsp.code, .slice da dn dc] : List Value)[j]) ∧ jobFine x ∧ UnitOk G L T w 3 [.int .i64 x.who, .int .i64 x.n, .int .i64 x.rsp.id, .int .i64 x.rsp.code, .slice da dn dc] := by
 rcases h with rfl | ⟨b, o, y, rfl, hb, hk, hn⟩
 · omega
 · obtain ⟨cs, _, ⟨x, fp, ⟨v, f, rfl, rfl, h0⟩, hG, hF⟩, h3⟩ := hT.at' hb hk hn hi
   obtain ⟨da, dn, dc, rfl⟩ := h0.form
   exact ⟨b, _, x, da, dn, dc, rfl, h3, hG, ⟨x, fp, ⟨_, fp, rfl, rfl, h0⟩, hG, hF⟩⟩
end Go.Proofs.YtaeiddoccfaheaaGreat
namespace Go.Proofs.YtaeiddoccfaheaaGreat
open Go.RowKit Go.WideShapes
theorem reqOk_fit {x : Req} (h : reqOk x = true) : reqFit x := by
 unfold reqOk at h
 simp only [Bool.and_eq_true, inB_true, beq_iff_eq, Bool.or_eq_true] at h
 obtain ⟨h1, h2, h3, h4, h5, -⟩ := h
 refine ⟨h1.1, h1.2, fun _ k1 k3 => ?_⟩
 have e : manyOf x = x.many := by
  unfold manyOf
  have : x.kind = 2 ∨ x.kind = 4 := by omega
  rcases this with q | q <;> simp [writesB, q]
 rw [e] at h4 h5
 exact ⟨h4, h5⟩
variable {L fq fm : List Nat} {rb bx cx : Nat} {T0 T T' : Tab} {w0 w w' : World} {M M' : Int} {lm : List MR} {vm : Value} {la pa : Option Addr} {ln lc pn pc : Nat}
theorem Step.later {fp : List Nat} (s : Step fq T0 w0 T w) (hc : Chg fp w w') (h : ∀ b, b ∈ fp -> w0.heap.size <= b) : Step fq T0 w0 T w' :=
 ⟨hc.os.trans s.os, hc.tape.trans s.tape, hc.output.trans s.output, Nat.le_trans s.size hc.size, fun b hb hn ht => (hc.block b (Nat.lt_of_lt_of_le hb s.size) (fun hm => by have := h b hm; omega)).trans (s.block b hb hn ht), s.ext, s.fresh⟩
structure BusC (L : List Nat) (rb bx cx : Nat) (fq : List Nat) (w0 : World) : Prop where
 hrb : rb ∈ L
 hbx : bx ∈ L
 hcx : cx ∈ L
 hfq : ∀ b, b ∈ fq -> b ∈ L
 n1 : bx ≠ rb
 n2 : cx ≠ rb
 n3 : bx ≠ cx
 n4 : bx ∉ fq
 n5 : cx ∉ fq
 l1 : w0.heap.size <= bx
 l2 : w0.heap.size <= cx
structure BusAt (G : Gd) (L : List Nat) (rb bx cx : Nat) (fq : List Nat) (T0 : Tab) (w0 : World) (M : Int) (lm : List MR) (fm : List Nat) (vm : Value) (T : Tab) (w : World) (la : Option Addr) (ln lc : Nat) (pa : Option Addr) (pn pc : Nat) : Prop where
 th : TH G L T w
 st : Step [rb] T0 w0 T w
 rd : RdAt w rb fq M
 mp : SlR 4 mrR w lm vm fm
 fz : Fz L T w fm
 lat : SlA T 1 la ln lc
 prg : SlA T 4 pa pn pc
 c0 : w.cell? ⟨bx, 0, none⟩ = some vm
 c1 : w.cell? ⟨bx, 1, none⟩ = some (.slice la ln lc)
 c2 : w.cell? ⟨bx, 2, none⟩ = some (.slice pa pn pc)
 fr : ∀ o, w.frozen? ⟨bx, o, none⟩ = false
 r0 : ∃ u, w.cell? ⟨cx, 0, none⟩ = some u
 r1 : ∃ u, w.cell? ⟨cx, 1, none⟩ = some u
 r2 : ∃ u, w.cell? ⟨cx, 2, none⟩ = some u
 fc : ∀ o, w.frozen? ⟨cx, o, none⟩ = false
variable {G : Gd}
theorem BusAt.step (C : BusC L rb bx cx fq w0) (h : BusAt G L rb bx cx fq T0 w0 M lm fm vm T w la ln lc pa pn pc) (t : TH G L T' w') (s : Step [] T w T' w') : BusAt G L rb bx cx fq T0 w0 M lm fm vm T' w' la ln lc pa pn pc := by
 have tb := h.th.rd bx C.hbx
 have tc := h.th.rd cx C.hcx
 exact ⟨t, h.st.trans (s.mono (by simp)), h.rd.step s (h.th.rd rb C.hrb) (fun b hb => h.th.rd b (C.hfq b hb)) rfl, h.mp.same mrR_fits (h.fz.same s (by simp)) s.size, h.fz.step s, h.lat.ext s.ext, h.prg.ext s.ext, s.cell h.c0 (by simp) tb, s.cell h.c1 (by simp) tb, s.cell h.c2 (by simp) tb,
  fun o => (World.frozen?_of_block (s.block bx (block_of_cell h.c0) (by simp) tb)).trans (h.fr o), h.r0.imp fun u e => s.cell e (by simp) tc, h.r1.imp fun u e => s.cell e (by simp) tc, h.r2.imp fun u e => s.cell e (by simp) tc,
  fun o => (World.frozen?_of_block (s.block cx (h.th.old cx C.hcx) (by simp) tc)).trans (h.fc o)⟩
theorem BusAt.below (C : BusC L rb bx cx fq w0) (h : BusAt G L rb bx cx fq T0 w0 M lm fm vm T w la ln lc pa pn pc) (hb : Below w.heap.size w w') : BusAt G L rb bx cx fq T0 w0 M lm fm vm T w' la ln lc pa pn pc :=
 h.step C (h.th.below hb) (Step.of_below [] hb)
theorem BusAt.mono (h : BusAt G L rb bx cx fq T0 w0 M lm fm vm T w la ln lc pa pn pc) (hm : M <= M') : BusAt G L rb bx cx fq T0 w0 M' lm fm vm T w la ln lc pa pn pc := { h with rd := h.rd.mono hm }
structure BusPost (G : Gd) (L : List Nat) (rb : Nat) (fq : List Nat) (T0 : Tab) (w0 : World) (M : Int) (e : Ending) (w : World) (T : Tab) (lm : List MR) (fm : List Nat) (va : Option Addr) (vn vc : Nat) (la : Option Addr) (ln lc : Nat) (pa : Option Addr) (pn pc : Nat) : Prop where
 ret : e = .returned (.agg #[.slice va vn vc, .slice la ln lc, .slice pa pn pc])
 th : TH G L T w
 st : Step [rb] T0 w0 T w
 rd : RdAt w rb fq M
 mp : SlR 4 mrR w lm (.slice va vn vc) fm
 fz : Fz L T w fm
 lat : SlA T 1 la ln lc
 prg : SlA T 4 pa pn pc
theorem BusAt.done {L' : List Nat} {va : Option Addr} {vn vc : Nat} (C : BusC L rb bx cx fq w0) (h : BusAt G L rb bx cx fq T0 w0 M lm fm (.slice va vn vc) T w la ln lc pa pn pc) (hs : ∀ b, b ∈ L' -> b ∈ L) (hc : Chg [cx] w w') : BusPost G L' rb fq T0 w0 M (.returned (.agg #[.slice va vn vc, .slice la ln lc, .slice pa pn pc])) w' T lm fm va vn vc la ln lc pa pn pc := by
 have q : ∀ b, b ∈ [cx] -> b ∈ L := by simpa using C.hcx
 exact ⟨rfl, (h.th.chg hc q).closed hs, h.st.later hc (by simpa using C.l2), h.rd.chg hc (by simpa using C.n2.symm) (fun b hb hm => C.n5 (by simp at hm; subst hm; exact hb)), h.mp.same mrR_fits (h.fz.same (Step.of_chg hc) q) hc.size, (h.fz.step (Step.of_chg hc)).closed hs, h.lat, h.prg⟩
end Go.Proofs.YtaeiddoccfaheaaGreat
