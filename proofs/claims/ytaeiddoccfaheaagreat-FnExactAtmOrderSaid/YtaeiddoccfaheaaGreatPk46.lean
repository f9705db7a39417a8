/-
 Texts of this claim laid together: OrdQ.
-/
import Derived.Test.YtaeiddoccfaheaaGreatPk45
import Derived.Test.YtaeiddoccfaheaaGreatPk33
set_option linter.unusedVariables false
set_option linter.unusedSimpArgs false
namespace Go.Proofs.YtaeiddoccfaheaaGreat
open Go.RowKit Go.ChangeShapes Go.WideShapes
structure SoG (w4 : World) (sb lb : Nat) (S : Atm × List Job) (v x0 x1 : Value) (f0 f1 : List Nat) (rows : List (CellsK 5)) (fps : List (List Nat)) (wr : World) : Prop where
 ch : Chg [sb, lb] w4 wr
 sl : sb < w4.heap.size
 ll : lb < w4.heap.size
 ne : sb ≠ lb
 s0 : wr.cell? ⟨sb, 0, none⟩ = some x0
 s1 : wr.cell? ⟨sb, 1, none⟩ = some x1
 fr : ∀ o, wr.frozen? ⟨sb, o, none⟩ = false
 g0 : SlR 1 intR wr S.1.mem x0 f0
 g1 : SlR 1 intR wr S.1.holds x1 f1
 lo : ∀ b, b ∈ f0 ++ f1 -> lb <= b
 own : OwnP 5 jobR 69 lb wr v S.2 rows fps
 ob : ∀ g, v.ownBlock = some g -> g = lb ∨ w4.heap.size <= g
 ap : ∀ b, b ∈ f0 ++ f1 -> v.ownBlock ≠ some b
 sf : sb ∉ fps.flatten
def SoI (w4 : World) (sb lb : Nat) (S : Atm × List Job) (v : Value) (wr : World) : Prop := ∃ x0 x1 f0 f1 rows fps, SoG w4 sb lb S v x0 x1 f0 f1 rows fps wr
variable {w4 wr w7 w8 w9 wa wb : World} {sb lb : Nat} {S : Atm × List Job} {v : Value}
theorem SoI.ch (h : SoI w4 sb lb S v wr) : Chg [sb, lb] w4 wr := by
 obtain ⟨_, _, _, _, _, _, h⟩ := h
 exact h.ch
theorem SoI.below (h : SoI w4 sb lb S v wr) (hb : Below wr.heap.size wr wa) : SoI w4 sb lb S v wa := by
 obtain ⟨x0, x1, f0, f1, rows, fps, h⟩ := h
 refine ⟨x0, x1, f0, f1, rows, fps, h.ch.trans' (hb.chg _), h.sl, h.ll, h.ne, keep_cell hb h.s0, keep_cell hb h.s1, fun o => (World.frozen?_of_block (hb.block sb (Nat.lt_of_lt_of_le h.sl h.ch.size))).trans (h.fr o), SlR.below intR_fits h.g0 hb, SlR.below intR_fits h.g1 hb, h.lo, h.own.chg jobR_fits (hb.chg []) (fun _ hm => by simp at hm), h.ob, h.ap, h.sf⟩
theorem SoI.store (h : SoI w4 sb lb S v wr) : ∃ (a a' : Option Addr) (n c n' c' : Nat) (f0 f1 : List Nat), wr.cell? ⟨sb, 0, none⟩ = some (.slice a n c) ∧ wr.cell? ⟨sb, 1, none⟩ = some (.slice a' n' c') ∧ SlR 1 intR wr S.1.mem (.slice a n c) f0 ∧ SlR 1 intR wr S.1.holds (.slice a' n' c') f1 := by
 obtain ⟨x0, x1, f0, f1, rows, fps, h⟩ := h
 obtain ⟨a, n, c, rfl⟩ := h.g0.form
 obtain ⟨a', n', c', rfl⟩ := h.g1.form
 exact ⟨a, a', n, c, n', c', f0, f1, h.s0, h.s1, h.g0, h.g1⟩
theorem SoI.next {c : Bus} {e : Ev} {r : Req} {a a' ad : Option Addr} {n cc n' c' nd cd : Nat} {f : List Nat} (h : SoI w4 sb lb S v wr) (hb : Below wr.heap.size wr w8) (hz : wr.heap.size <= w7.heap.size)
 (hd : DoN w7 r.id (atmDo c.map S.1.mem S.1.holds e.who r) (.slice a n cc) (.slice a' n' c') (.int .i64 r.id) (.int .i64 (atmDo c.map S.1.mem S.1.holds e.who r).code) (.slice ad nd cd) f w8)
 (e9 : w9 = (w8.setCell ⟨sb, 0, none⟩ (.slice a n cc)).setCell ⟨sb, 1, none⟩ (.slice a' n' c')) (ha : Below w9.heap.size w9 wa) :
 ∃ rows fps fd, OwnP 5 jobR 69 lb wa v S.2 rows fps ∧ jobR wa ⟨e.who, e.n, ⟨r.id, (atmDo c.map S.1.mem S.1.holds e.who r).code, (atmDo c.map S.1.mem S.1.holds e.who r).data⟩⟩ [.int .i64 e.who, .int .i64 e.n, .int .i64 r.id, .int .i64 (atmDo c.map S.1.mem S.1.holds e.who r).code, .slice ad nd cd] fd ∧
  (∀ b, b ∈ fd -> lb <= b) ∧ fd.Nodup ∧ Free fd wa ∧ (∀ b, b ∈ fd -> v.ownBlock ≠ some b ∧ b ∉ fps.flatten) ∧ lb <= wa.heap.size ∧
  ∀ v' wb rows', OwnP 5 jobR 69 lb wb v' (ordDo c S e r).2 rows' (fps ++ [fd]) -> Below lb wa wb -> (∀ b, b < wa.heap.size -> v.ownBlock ≠ some b -> wb.heap[b]? = wa.heap[b]?) -> (v'.ownBlock = v.ownBlock ∨ v'.ownBlock = some wa.heap.size) -> SoI w4 sb lb (ordDo c S e r) v' wb := by
 obtain ⟨x0, x1, f0, f1, rows, fps, h⟩ := h
 have hl8 := hd.lt
 obtain ⟨d0, d1, fd, -, -, rfl, k0, k1, k2, nw⟩ := hd
 have hc : Chg [sb] w8 w9 := by rw [e9]; exact (store_chg _).trans' (store_chg _)
 have hsr : sb < wr.heap.size := Nat.lt_of_lt_of_le h.sl h.ch.size
 have hown := h.own.ltBlock
 have hfp := h.own.lt jobR_fits
 have hno : v.ownBlock ≠ some sb := fun q => by
  rcases h.ob sb q with q | q
  · exact h.ne q
  · have := h.sl; omega
 have hnw : ∀ b, b ∈ d0 ++ d1 ++ fd -> wr.heap.size <= b := fun b hb' => Nat.le_trans hz (nw.lo b hb')
 have hns : ∀ b, b ∈ d0 ++ d1 ++ fd -> b ∉ [sb] := fun b hb' q => by have := hnw b hb'; simp at q; omega
 have o8 := h.own.chg jobR_fits (hb.chg [sb]) (fun b hm => by simp at hm; subst hm; exact ⟨hno, h.sf⟩)
 have o9 := (o8.chg jobR_fits hc (fun b hm => by simp at hm; subst hm; exact ⟨hno, h.sf⟩)).chg jobR_fits (ha.chg []) (fun _ hm => by simp at hm)
 have hca : Chg [sb] w8 wa := hc.trans' (ha.chg _)
 have j0 := k0.chg intR_fits hca (fun b hb' => hns b (by simp [hb']))
 have j1 := k1.chg intR_fits hca (fun b hb' => hns b (by simp [hb']))
 have j2 := k2.chg intR_fits hca (fun b hb' => hns b (by simp [hb']))
 have jf := nw.free.chg hl8 hca hns
 have hla : ∀ b, b ∈ d0 ++ d1 ++ fd -> b < wa.heap.size := fun b hb' => Nat.lt_of_lt_of_le (hl8 b hb') hca.size
 have hap : ∀ b, b ∈ d0 ++ d1 ++ fd -> v.ownBlock ≠ some b ∧ b ∉ fps.flatten := fun b hb' => ⟨fun q => by have := hown b q; have := hnw b hb'; omega, fun q => by have := hfp b q; have := hnw b hb'; omega⟩
 have hllr : lb <= wr.heap.size := Nat.le_of_lt (Nat.lt_of_lt_of_le h.ll h.ch.size)
 have s0 : wa.cell? ⟨sb, 0, none⟩ = some (.slice a n cc) := keep_cell ha (by rw [e9]; exact put2a_0 _ _ (keep_cell hb h.s0))
 have s1 : wa.cell? ⟨sb, 1, none⟩ = some (.slice a' n' c') := keep_cell ha (by rw [e9]; exact put2a_1 _ _ (keep_cell hb h.s1))
 have hfr : ∀ o, wa.frozen? ⟨sb, o, none⟩ = false := fun o => by
  have h8 : w8.frozen? ⟨sb, o, none⟩ = false := (World.frozen?_of_block (hb.block sb hsr)).trans (h.fr o)
  have h9 : w9.frozen? ⟨sb, o, none⟩ = false := by rw [e9]; exact (World.frozen?_setCell ..).trans ((World.frozen?_setCell ..).trans h8)
  exact (World.frozen?_of_block (ha.block sb (by have := hb.size; have := hc.size; omega))).trans h9
 have hsa : sb < wa.heap.size := by have := hb.size; have := hca.size; omega
 refine ⟨rows, fps, fd, o9, ⟨_, fd, rfl, rfl, j2⟩, fun b hb' => Nat.le_trans hllr (hnw b (by simp [hb'])), (List.nodup_append.1 nw.once).2.1, fun b hb' => jf b (by simp [hb']), fun b hb' => hap b (by simp [hb']), by have := hb.size; have := hca.size; omega, fun v' wb rows' ho' hbel hkeep hblk => ?_⟩
 have hsm : ∀ fq : List Nat, (∀ b, b ∈ fq -> b ∈ d0 ++ d1 ++ fd) -> Same fq wa wb := fun fq hs b hm => hkeep b (hla b (hs b hm)) (hap b (hs b hm)).1
 refine ⟨.slice a n cc, .slice a' n' c', d0, d1, rows', fps ++ [fd], ?_, h.sl, h.ll, h.ne, ?_, ?_, fun o => (World.frozen?_of_block (hkeep sb hsa hno)).trans (hfr o), j0.same intR_fits (hsm d0 (fun b hm => by simp [hm])) hbel.size, j1.same intR_fits (hsm d1 (fun b hm => by simp [hm])) hbel.size, fun b hm => Nat.le_trans hllr (hnw b (by simp only [List.mem_append] at hm ⊢; exact .inl hm)), ho', fun g hg => ?_, fun b hm q => ?_, ?_⟩
 · have c1 : Chg [sb, lb] w4 wa := (h.ch.trans' (hb.chg _)).trans' ⟨hca.os, hca.tape, hca.output, hca.size, fun k hk hn => hca.block k hk (fun q => hn (by simp at q; simp [q]))⟩
   refine ⟨hbel.os.trans c1.os, hbel.tape.trans c1.tape, hbel.output.trans c1.output, Nat.le_trans c1.size hbel.size, fun k hk hn => ?_⟩
   rw [<- c1.block k hk hn]
   refine hkeep k (Nat.lt_of_lt_of_le hk c1.size) fun q => ?_
   rcases h.ob k q with q | q
   · exact hn (by simp [q])
   · omega
 · exact (World.cell?_of_block (hkeep sb hsa hno)).trans s0
 · exact (World.cell?_of_block (hkeep sb hsa hno)).trans s1
 · have hz4 := h.ch.size
   rcases hblk with q | q
   · rw [q] at hg; exact h.ob g hg
   · rw [hg] at q
     obtain rfl : g = wa.heap.size := Option.some.inj q
     exact .inr (by have := hb.size; have := hca.size; omega)
 · have hm' : b ∈ d0 ++ d1 ++ fd := by simp only [List.mem_append] at hm ⊢; exact .inl hm
   rcases hblk with q2 | q2
   · rw [q2] at q; exact (hap b hm').1 q
   · rw [q] at q2
     obtain rfl : b = wa.heap.size := Option.some.inj q2
     have := hla _ hm'; omega
 · simp only [List.flatten_append, List.mem_append, List.flatten_cons, List.flatten_nil, List.append_nil, not_or]
   exact ⟨h.sf, fun q => by have := hnw sb (by simp [q]); omega⟩
theorem SoI.fin (h : SoI w4 sb lb S v wr) : ∃ x0 x1 f0 f1 f, wr.cell? ⟨sb, 0, none⟩ = some x0 ∧ wr.cell? ⟨sb, 1, none⟩ = some x1 ∧ SlR 1 intR wr S.1.mem x0 f0 ∧ SlR 1 intR wr S.1.holds x1 f1 ∧ SlR 5 jobR wr S.2 v f ∧ ∀ b, b ∈ f0 ++ f1 ++ f -> lb <= b := by
 obtain ⟨x0, x1, f0, f1, rows, fps, h⟩ := h
 have ho : OwnE 5 jobR 69 lb wr v S.2 := ⟨rows, fps, h.own⟩
 obtain ⟨f, g, hlo, -, -⟩ := ho.reads jobR_fits
 refine ⟨x0, x1, f0, f1, f, h.s0, h.s1, h.g0, h.g1, g, fun b hb => ?_⟩
 rcases List.mem_append.1 hb with hb | hb
 · exact h.lo b hb
 · exact hlo b hb
end Go.Proofs.YtaeiddoccfaheaaGreat
