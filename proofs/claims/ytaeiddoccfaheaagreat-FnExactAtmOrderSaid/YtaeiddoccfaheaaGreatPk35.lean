/-
 Texts of this claim laid together: OrdJ.
-/
import Derived.Test.YtaeiddoccfaheaaGreatPk27
import Derived.Test.YtaeiddoccfaheaaGreatPk32
import Derived.Test.YtaeiddoccfaheaaGreatPk33
import Derived.Test.YtaeiddoccfaheaaGreatPk34
set_option linter.unusedVariables false
set_option linter.unusedSimpArgs false
namespace Go.Proofs.YtaeiddoccfaheaaGreat
open Go.RowKit Go.ChangeShapes Go.WideShapes
structure IoI (w5 : World) (vw vh : Value) (fw fh : List Nat) (S : Atm × List Job) (v : Value) (wr : World) : Prop where
 ch : Chg (fw ++ fh) w5 wr
 mem : SlR 1 intR wr S.1.mem vw fw
 hol : SlR 1 intR wr S.1.holds vh fh
 fr : Free (fw ++ fh) wr
 own : OwnE 5 jobR 69 w5.heap.size wr v S.2
section
variable {w5 wr wa : World} {vw vh v : Value} {fw fh : List Nat} {S : Atm × List Job}
theorem IoI.lt (h : IoI w5 vw vh fw fh S v wr) : ∀ b, b ∈ fw ++ fh -> b < wr.heap.size := fun b hb => (List.mem_append.1 hb).elim (h.mem.lt intR_fits b) (h.hol.lt intR_fits b)
theorem IoI.below (h : IoI w5 vw vh fw fh S v wr) (hb : Below wr.heap.size wr wa) : IoI w5 vw vh fw fh S v wa :=
 ⟨h.ch.trans' (hb.chg _), SlR.below intR_fits h.mem hb, SlR.below intR_fits h.hol hb, h.fr.below h.lt hb, OwnE.below jobR_fits h.own hb⟩
end
structure TelI (w0 : World) (id : Int) (R : DoR) (who nn : Int) (vw vh : Value) (fw fh : List Nat) (ms hs : List Int) (c19 c20 c21 : Bool) (v19 v20 v21 : Value) (w : World) : Prop where
 bel : Chg (fw ++ fh) w0 w
 fr : Free (fw ++ fh) w
 lt : ∀ b, b ∈ fw ++ fh -> b < w.heap.size
 pre : c19 = false -> SlR 1 intR w ms vw fw ∧ SlR 1 intR w hs vh fh
 post : c19 = true -> ∃ (a : Option Addr) (n c : Nat) (fd : List Nat), v19 = .agg #[.int .i64 id, .int .i64 R.code, .slice a n c] ∧ SlR 1 intR w R.mem vw fw ∧ SlR 1 intR w R.holds vh fh ∧ SlR 1 intR w R.data (.slice a n c) fd ∧ New fd w0 w ∧ (∀ b, b ∈ fd -> b ∉ fw ++ fh) ∧
  (c20 = true -> v20 = .agg #[.int .i64 who, .int .i64 nn, .int .i64 id, .int .i64 R.code, .slice a n c]) ∧
  (c21 = true -> ∃ q, v21 = .slice (some ⟨q, 0, none⟩) 1 1 ∧ q ∉ fw ++ fh ∧ ∀ j (hj : j < 5), w.cell? ⟨q, j, none⟩ = some ([.int .i64 who, .int .i64 nn, .int .i64 id, .int .i64 R.code, .slice a n c][j]'hj))
section
variable {w0 w w' : World} {id : Int} {R : DoR} {who nn : Int} {vw vh : Value} {fw fh : List Nat} {ms hs : List Int} {c19 c20 c21 : Bool} {v19 v20 v21 : Value}
theorem TelI.below (h : TelI w0 id R who nn vw vh fw fh ms hs c19 c20 c21 v19 v20 v21 w) (hb : Below w.heap.size w w') : TelI w0 id R who nn vw vh fw fh ms hs c19 c20 c21 v19 v20 v21 w' :=
 ⟨h.bel.trans' (hb.chg _), h.fr.below h.lt hb, fun b hm => Nat.lt_of_lt_of_le (h.lt b hm) hb.size, fun e => ⟨SlR.below intR_fits (h.pre e).1 hb, SlR.below intR_fits (h.pre e).2 hb⟩, fun e => by
  obtain ⟨a, n, c, fd, e1, g0, g1, g2, nw, na, e20, e21⟩ := h.post e
  refine ⟨a, n, c, fd, e1, SlR.below intR_fits g0 hb, SlR.below intR_fits g1 hb, SlR.below intR_fits g2 hb, nw.later (g2.lt intR_fits) (hb.chg []), na, e20, fun e => ?_⟩
  obtain ⟨q, e2, hq, hc⟩ := e21 e
  exact ⟨q, e2, hq, fun j hj => keep_cell hb (hc j hj)⟩⟩
theorem TelI.start (h0 : SlR 1 intR w0 ms vw fw) (h1 : SlR 1 intR w0 hs vh fh) (hf : Free (fw ++ fh) w0) (h19 : c19 = false) : TelI w0 id R who nn vw vh fw fh ms hs c19 c20 c21 v19 v20 v21 w0.drew := by
 have hl : ∀ b, b ∈ fw ++ fh -> b < w0.heap.size := fun b hb => (List.mem_append.1 hb).elim (h0.lt intR_fits b) (h1.lt intR_fits b)
 have hb : Below w0.heap.size w0 w0.drew := (Below.refl _ _).drew
 exact ⟨hb.chg _, hf.below hl hb, fun b hm => Nat.lt_of_lt_of_le (hl b hm) hb.size, fun _ => ⟨SlR.below intR_fits h0 hb, SlR.below intR_fits h1 hb⟩, fun e => by rw [h19] at e; cases e⟩
theorem TelI.call {a : Option Addr} {n c : Nat} {fd : List Nat} (h : TelI w0 id R who nn vw vh fw fh ms hs c19 c20 c21 v19 v20 v21 w) (h20 : c20 = false) (h21 : c21 = false) (g0 : SlR 1 intR w' R.mem vw fw) (g1 : SlR 1 intR w' R.holds vh fh) (g2 : SlR 1 intR w' R.data (.slice a n c) fd) (nd : New fd w w') (hc : Chg (fw ++ fh) w w') (fr : Free (fw ++ fh) w') :
 TelI w0 id R who nn vw vh fw fh ms hs true c20 c21 (.agg #[.int .i64 id, .int .i64 R.code, .slice a n c]) v20 v21 w' :=
 ⟨h.bel.trans' hc, fr, fun b hm => Nat.lt_of_lt_of_le (h.lt b hm) hc.size, fun e => by (cases e), fun _ => ⟨a, n, c, fd, rfl, g0, g1, g2, ⟨fun b hb => Nat.le_trans h.bel.size (nd.lo b hb), nd.once, nd.free⟩, fun b hb hm => by have := nd.lo b hb; have := h.lt b hm; omega, fun e => by (rw [h20] at e; cases e), fun e => by (rw [h21] at e; cases e)⟩⟩
theorem TelI.told (h : TelI w0 id R who nn vw vh fw fh ms hs c19 c20 c21 v19 v20 v21 w) (h19 : c19 = true) (h21 : c21 = false) : ∃ (a : Option Addr) (n c : Nat), v19 = .agg #[.int .i64 id, .int .i64 R.code, .slice a n c] ∧ TelI w0 id R who nn vw vh fw fh ms hs c19 true c21 v19 (.agg #[.int .i64 who, .int .i64 nn, .int .i64 id, .int .i64 R.code, .slice a n c]) v21 w := by
 obtain ⟨a, n, c, fd, e1, g0, g1, g2, nw, na, e20, e21⟩ := h.post h19
 exact ⟨a, n, c, e1, h.bel, h.fr, h.lt, h.pre, fun _ => ⟨a, n, c, fd, e1, g0, g1, g2, nw, na, fun _ => rfl, fun e => by (rw [h21] at e; cases e)⟩⟩
theorem TelI.laid (h : TelI w0 id R who nn vw vh fw fh ms hs c19 c20 c21 v19 v20 v21 w) (h19 : c19 = true) (h20 : c20 = true) : ∃ (a : Option Addr) (n c : Nat), v20 = .agg #[.int .i64 who, .int .i64 nn, .int .i64 id, .int .i64 R.code, .slice a n c] ∧
 TelI w0 id R who nn vw vh fw fh ms hs c19 c20 true v19 v20 (.slice (some ⟨w.heap.size, 0, none⟩) 1 1) (w.alloc (.cells #[.int .i64 who, .int .i64 nn, .int .i64 id, .int .i64 R.code, .slice a n c] 69)) := by
 obtain ⟨a, n, c, fd, e1, g0, g1, g2, nw, na, e20, e21⟩ := h.post h19
 have hb := below_alloc w (.cells #[.int .i64 who, .int .i64 nn, .int .i64 id, .int .i64 R.code, .slice a n c] 69)
 have k := h.below hb
 refine ⟨a, n, c, e20 h20, k.bel, k.fr, k.lt, k.pre, fun _ => ⟨a, n, c, fd, e1, SlR.below intR_fits g0 hb, SlR.below intR_fits g1 hb, SlR.below intR_fits g2 hb, nw.later (g2.lt intR_fits) (hb.chg []), na, e20, fun _ => ⟨_, rfl, fun hm => by have := h.lt _ hm; omega, fun j hj => alloc1_new _ _ _ j ?_⟩⟩⟩
 rw [<- Array.getElem?_toList]
 exact List.getElem?_eq_getElem hj
end
end Go.Proofs.YtaeiddoccfaheaaGreat
