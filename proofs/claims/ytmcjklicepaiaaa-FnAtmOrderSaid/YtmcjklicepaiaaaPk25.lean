/-
 Texts of this claim laid together: TlmNew MapTo.
-/
import Derived.Test.YtmcjklicepaiaaaProg
import Derived.Test.YtmcjklicepaiaaaPk01
import Derived.Test.YtmcjklicepaiaaaPk24
import Derived.Test.YtmcjklicepaiaaaPk16
import Derived.WalkSmall
import Derived.Test.YtmcjklicepaiaaaPk10
import Derived.OwnWalk
import Derived.StillTailTactics
import Derived.KernelRfl
set_option linter.unusedVariables false
set_option linter.unusedSimpArgs false
namespace Go.Proofs.Ytmcjklicepaiaaa
open Go.RowKit
def tlmNew : Tlm := ⟨atmNew, List.replicate 3 0, [], [], []⟩
structure Res (w w1 : World) : Prop where
 cells : ∀ j, j < 6 -> w1.cell? ⟨w.heap.size, j, none⟩ = some (.slice none 0 0)
 free : ∀ j, w1.frozen? ⟨w.heap.size, j, none⟩ = false
 lt : w.heap.size < w1.heap.size
 below : Below w.heap.size w w1
theorem Res.later {w w1 w2 : World} (h : Res w w1) (b : Below w1.heap.size w1 w2) : Res w w2 :=
 ⟨fun j hj => (b.cell (p := ⟨w.heap.size, j, none⟩) h.lt).trans (h.cells j hj), fun j => (b.frozen (p := ⟨w.heap.size, j, none⟩) h.lt).trans (h.free j), Nat.lt_of_lt_of_le h.lt b.size, h.below.trans (b.mono h.below.size)⟩
theorem Res.made (w : World) (T : TypeId) : Res w (w.alloc (.cells #[.slice none 0 0, .slice none 0 0, .slice none 0 0, .slice none 0 0, .slice none 0 0, .slice none 0 0] T)).drew := by
 refine ⟨fun j hj => ?_, fun j => World.frozen?_alloc_at _ _ _ _ rfl, by simp [World.drew], (below_alloc w _).drew⟩
 have hx : j = 0 ∨ j = 1 ∨ j = 2 ∨ j = 3 ∨ j = 4 ∨ j = 5 := by omega
 rcases hx with rfl | rfl | rfl | rfl | rfl | rfl
 all_goals exact alloc1_new w _ _ _ rfl
def GA (w : World) (v : Value) (w1 : World) : Prop := ∃ (a0 a1 : Option Addr) (l0 k0 l1 k1 : Nat) (fp0 fp1 : List Nat), v = .agg #[.slice a0 l0 k0, .slice a1 l1 k1] ∧ SlR 1 intR w1 atmNew.mem (.slice a0 l0 k0) fp0 ∧ SlR 1 intR w1 atmNew.holds (.slice a1 l1 k1) fp1 ∧ (∀ b, b ∈ fp0 ++ fp1 -> w.heap.size < b) ∧ (fp0 ++ fp1).Nodup ∧ Free (fp0 ++ fp1) w1 ∧ Res w w1
def GB (w : World) (v : Value) (w1 : World) : Prop := ∃ g : Nat, v = .slice (some ⟨g, 0, none⟩) 3 3 ∧ SlR 1 intR w1 (List.replicate 3 0) (.slice (some ⟨g, 0, none⟩) 3 3) [g] ∧ w.heap.size < g ∧ Free [g] w1 ∧ Res w w1
def GC (w : World) (u v : Value) (w1 : World) : Prop := ∃ (a0 a1 : Option Addr) (l0 k0 l1 k1 g : Nat) (fp0 fp1 : List Nat), u = .agg #[.slice a0 l0 k0, .slice a1 l1 k1] ∧ v = .slice (some ⟨g, 0, none⟩) 3 3 ∧ SlR 1 intR w1 atmNew.mem (.slice a0 l0 k0) fp0 ∧ SlR 1 intR w1 atmNew.holds (.slice a1 l1 k1) fp1 ∧ SlR 1 intR w1 (List.replicate 3 0) (.slice (some ⟨g, 0, none⟩) 3 3) [g] ∧ (∀ b, b ∈ fp0 ++ fp1 ++ [g] -> w.heap.size < b) ∧ (fp0 ++ fp1 ++ [g]).Nodup ∧ Free (fp0 ++ fp1 ++ [g]) w1 ∧ Res w w1
theorem made3 {w1 w2 : World} (hown : w2.ownsRow w1.heap.size 3 1 (.slice (some ⟨w1.heap.size, 0, none⟩) 3 3) 3 (madeCells (Value.int .i64 0).cells (3 * 1)).toList) :
 SlR 1 intR w2 (List.replicate 3 0) (.slice (some ⟨w1.heap.size, 0, none⟩) 3 3) [w1.heap.size] ∧ Free [w1.heap.size] w2 := by
 have ho : w2.ownsRow w1.heap.size 3 1 (.slice (some ⟨w1.heap.size, 0, none⟩) 3 3) 3 ((List.replicate 3 (0 : Int)).map (Value.int .i64)) := by
  rw [show (madeCells (Value.int .i64 0).cells (3 * 1)).toList = (List.replicate 3 (0 : Int)).map (Value.int .i64) from by simp [Value.cells, toList_madeCells_one]] at hown
  simpa using hown
 refine ⟨⟨_, 3, 3, rfl, by simp, Nat.le_refl _, by decide, .inr ⟨_, 0, List.replicate 3 [], rfl, (ho.lt _ rfl).2, by simp, by simp, fun i h h' => ⟨[.int .i64 0], ⟨by rw [List.getElem_replicate], by rw [List.getElem_replicate]⟩, fun j hj => ?_⟩⟩⟩, fun b hb o => ?_⟩
 · have hi : i < 3 := by simpa using h
   obtain rfl : j = 0 := by simpa using hj
   rw [Nat.zero_add, Nat.mul_one, Nat.add_zero, ho.cellAt i (by omega), List.map_replicate, List.getElem?_replicate, if_pos hi]
   rfl
 · obtain rfl : b = w1.heap.size := by simpa using hb
   exact ho.frozenAt o
theorem put6 {w : World} {b : Nat} (h : ∀ j, j < 6 -> w.cell? ⟨b, j, none⟩ = some (.slice none 0 0)) (cs : List Value) (hl : cs.length = 6) (j : Nat) (hj : j < cs.length) : (putCells b w 0 cs).cell? ⟨b, j, none⟩ = some cs[j] := by
 have := putCells_in (g := b) cs w 0 j hj (fun q hq => ⟨_, by rw [Nat.zero_add]; exact h q (by omega)⟩)
 rwa [Nat.zero_add] at this
set_option maxRecDepth 100000 in
set_option maxHeartbeats 3200000 in
theorem sTlmNew_nil (w : World) :
 Calls Try.prog 111 #[] w fun e w' => ∃ v0 fp0 v1 fp1 v2 fp2 v3 fp3 v4 fp4 v5 fp5, e = .returned (.agg #[v0, v1, v2, v3, v4, v5]) ∧ SlR 1 intR w' tlmNew.atm.mem v0 fp0 ∧ SlR 1 intR w' tlmNew.atm.holds v1 fp1 ∧ SlR 1 intR w' tlmNew.asked v2 fp2 ∧ SlR 5 jobR w' tlmNew.wait v3 fp3 ∧ SlR 5 jobR w' tlmNew.done v4 fp4 ∧ SlR 5 jobR w' tlmNew.told v5 fp5 ∧ New (fp0 ++ fp1 ++ fp2 ++ fp3 ++ fp4 ++ fp5) w w' ∧ Below w.heap.size w w' ∧ v3 = .slice none 0 0 ∧ v4 = .slice none 0 0 ∧ v5 = .slice none 0 0 := by
 obtain ⟨i0, hi, hz0, hz1, hz2⟩ := info_parts infoInt
 have rs0 := Lib.hid (Res.made w 70)
 go_enter Try.func111, Try.ntmps111
 go_wp2_with fail
 refine wp_region_any (by kernel_rfl) ?_
 change wpAny _ _ _ _ _ _ _ (World.drew _)
 obtain ⟨w0, hw0⟩ : ∃ w0, w0 = (w.alloc (.cells #[.slice none 0 0, .slice none 0 0, .slice none 0 0, .slice none 0 0, .slice none 0 0, .slice none 0 0] 70)).drew := ⟨_, rfl⟩
 rw [<- hw0] at rs0 ⊢
 clear hw0
 refine any_two (i := 0) (j := 1) (by kernel_rfl) rfl rfl rfl rfl (fun _ _ h => by cases h) (fun _ _ h => by cases h) (fun d hd => by cases hd; exact (by decide : 1 < 4)) (fun d hd => by cases hd; exact (by decide : 2 < 4)) (GA w) (GB w) ?_ ?_ ?_ ?_
 · go_wp2_with fail
   refine (sAtmNew_any _).mono ?_
   rintro e w1 ⟨v0, fp0, v1, fp1, rfl, g0, g1, n, b⟩
   obtain ⟨a0, l0, k0, rfl⟩ := g0.form
   obtain ⟨a1, l1, k1, rfl⟩ := g1.form
   have HG := Lib.hid (show GA w (.agg #[.slice a0 l0 k0, .slice a1 l1 k1]) w1 from ⟨a0, a1, l0, k0, l1, k1, fp0, fp1, rfl, g0, g1, fun b' hb => by have := n.lo b' hb; have := rs0.out.lt; omega, n.once, n.free, rs0.out.later b⟩)
   clear g0 g1 n b
   go_wp2
   exact ⟨rfl, _, rfl, HG.out⟩
 · rintro v w1 ⟨a0, a1, l0, k0, l1, k1, fp0, fp1, rfl, g0, g1, lo, on, fr, rs⟩
   refine any_one (i := 1) (by kernel_rfl) rfl rfl (fun _ _ h => by cases h) (fun d hd => by cases hd; exact (by decide : 2 < 4)) (GC w (.agg #[.slice a0 l0 k0, .slice a1 l1 k1])) ?_ ?_
   · have RS := Lib.hid rs
     have G0 := Lib.hid g0
     have G1 := Lib.hid g1
     have LO := Lib.hid lo
     have ON := Lib.hid on
     have FR := Lib.hid fr
     clear g0 g1 lo on fr rs
     refine wpList_make_full _ rfl _ _ 24 rfl w1.heap.size 3 i0 (.int .i64 0) 1 Try.underlying24 hi hz0 hz1 _ _ _ _ 3 rfl rfl rfl rfl (by rw [hz2]; omega) (by unfold maxLen; omega) (by simp) ?_
     intro w2 hown hgr
     obtain ⟨t1, t2⟩ := made3 hown
     have bw := below_of_grown hgr
     have HL : ∀ b, b ∈ fp0 ++ fp1 -> b < w1.heap.size := all_app (T := fun b => b < w1.heap.size) (G0.out.lt intR_fits) (G1.out.lt intR_fits)
     clear hown hgr
     have T1 := Lib.hid t1
     have T2 := Lib.hid t2
     have BW := Lib.hid bw
     clear t1 t2 bw
     go_wp2
     have t1 := T1.out
     have t2 := T2.out
     have bw := BW.out
     exact ⟨rfl, _, rfl, a0, a1, l0, k0, l1, k1, w1.heap.size, fp0, fp1, rfl, rfl, G0.out.below intR_fits bw, G1.out.below intR_fits bw, t1, all_app (T := fun b => w.heap.size < b) LO.out (fun b hb => by have := RS.out.lt; simp at hb; omega), nodup_app ON.out (by simp) (fun b hb hb' => by have := HL b hb; simp at hb'; omega), (FR.out.below HL bw).app t2, RS.out.later bw⟩
   clear g0 g1 lo on fr rs
   rintro v w2 ⟨a0', a1', l0', k0', l1', k1', g, fp0', fp1', he, rfl, g0, g1, g2, lo, on, fr, rs⟩
   simp only [Value.agg.injEq, Array.mk.injEq, List.cons.injEq, Value.slice.injEq, and_true] at he
   obtain ⟨⟨rfl, rfl, rfl⟩, rfl, rfl, rfl⟩ := he
   clear fp0 fp1
   obtain ⟨fp0, e0⟩ : ∃ f, f = fp0' := ⟨_, rfl⟩
   obtain ⟨fp1, e1⟩ : ∃ f, f = fp1' := ⟨_, rfl⟩
   subst e0 e1
   refine any_one (i := 2) (by kernel_rfl) rfl rfl (fun _ _ h => by cases h) (fun d hd => by cases hd; exact (by decide : 3 < 4)) (fun v w' => v = .agg #[.slice a0 l0 k0, .slice a1 l1 k1, .slice (some ⟨g, 0, none⟩) 3 3, .slice none 0 0, .slice none 0 0, .slice none 0 0] ∧ w' = w2) ?_ ?_
   · clear g0 g1 g2 lo on fr rs
     go_wp2
     exact ⟨rfl, _, rfl, rfl, rfl⟩
   rintro v w3 ⟨rfl, rfl⟩
   have c0 := rs.cells 0 (by omega)
   have c1 := rs.cells 1 (by omega)
   have c2 := rs.cells 2 (by omega)
   have c3 := rs.cells 3 (by omega)
   have c4 := rs.cells 4 (by omega)
   have c5 := rs.cells 5 (by omega)
   have f0 := rs.free 0
   have f1 := rs.free 1
   have f2 := rs.free 2
   have f3 := rs.free 3
   have f4 := rs.free 4
   have f5 := rs.free 5
   have RS := Lib.hid rs
   have G0 := Lib.hid g0
   have G1 := Lib.hid g1
   have G2 := Lib.hid g2
   have LO := Lib.hid lo
   have ON := Lib.hid on
   have FR := Lib.hid fr
   clear g0 g1 g2 lo on fr rs
   refine any_one (i := 3) (by kernel_rfl) rfl rfl (fun _ _ h => by cases h) (fun d hd => by cases hd) (fun v w' => w' = putCells w.heap.size w3 0 [.slice a0 l0 k0, .slice a1 l1 k1, .slice (some ⟨g, 0, none⟩) 3 3, .slice none 0 0, .slice none 0 0, .slice none 0 0]) ?_ ?_
   · go_wp2
     exact ⟨rfl, undef, rfl, rfl⟩
   rintro v w4 hw4
   refine wpAny_done (by kernel_rfl) ?_ _
   have p : ∀ j (hj : j < 6), w4.cell? ⟨w.heap.size, j, none⟩ = some ([.slice a0 l0 k0, .slice a1 l1 k1, .slice (some ⟨g, 0, none⟩) 3 3, .slice none 0 0, .slice none 0 0, .slice none 0 0][j]'hj) := fun j hj => by rw [hw4]; exact put6 RS.out.cells [.slice a0 l0 k0, .slice a1 l1 k1, .slice (some ⟨g, 0, none⟩) 3 3, .slice none 0 0, .slice none 0 0, .slice none 0 0] rfl j hj
   have p0 := p 0 (by omega)
   have p1 := p 1 (by omega)
   have p2 := p 2 (by omega)
   have p3 := p 3 (by omega)
   have p4 := p 4 (by omega)
   have p5 := p 5 (by omega)
   simp only [List.getElem_cons_zero, List.getElem_cons_succ] at p0 p1 p2 p3 p4 p5
   have hsame : ∀ fq : List Nat, (∀ b, b ∈ fq -> w.heap.size < b) -> Same fq w3 w4 := fun fq hq b hb => by rw [hw4]; exact putCells_block (by have := hq b hb; omega) _ _ _
   have hsz : w3.heap.size <= w4.heap.size := by rw [hw4, putCells_size]; exact Nat.le_refl _
   have q0 : ∀ b, b ∈ fp0 -> w.heap.size < b := fun b hb => LO.out b (by simp [hb])
   have q1 : ∀ b, b ∈ fp1 -> w.heap.size < b := fun b hb => LO.out b (by simp [hb])
   have q2 : ∀ b, b ∈ [g] -> w.heap.size < b := fun b hb => LO.out b (by simp at hb; simp [hb])
   have HB := Lib.hid (show Below w.heap.size w w4 by rw [hw4]; exact putCells_below (Nat.le_refl _) _ _ _ RS.out.below)
   have H0 := Lib.hid (G0.out.same intR_fits (hsame _ q0) hsz)
   have H1 := Lib.hid (G1.out.same intR_fits (hsame _ q1) hsz)
   have H2 := Lib.hid (G2.out.same intR_fits (hsame _ q2) hsz)
   have HN : Hid (New (fp0 ++ fp1 ++ [g] ++ [] ++ [] ++ []) w w4) := Lib.hid ⟨fun b hb => Nat.le_of_lt (LO.out b (by simpa using hb)), by simpa using ON.out, fun b hb => (FR.out.same (hsame _ LO.out)) b (by simpa using hb)⟩
   have nl : SlR 5 jobR w4 [] (.slice none 0 0) [] := ⟨none, 0, 0, rfl, rfl, Nat.le_refl _, Nat.zero_le _, .inl ⟨rfl, rfl⟩⟩
   have NL := Lib.hid nl
   clear hsame hsz q0 q1 q2 hw4 p nl c0 c1 c2 c3 c4 c5 f0 f1 f2 f3 f4 f5
   go_wp2
   exact bodyPost_ret (v := .agg #[.slice a0 l0 k0, .slice a1 l1 k1, .slice (some ⟨g, 0, none⟩) 3 3, .slice none 0 0, .slice none 0 0, .slice none 0 0]) (by simp [results, Try.results111, go_sem, p0, p1, p2, p3, p4, p5]) rfl
    ⟨_, fp0, _, fp1, _, [g], _, [], _, [], _, [], rfl, H0.out, H1.out, H2.out, NL.out, NL.out, NL.out, HN.out, HB.out, rfl, rfl, rfl⟩
 · refine wpList_make_full _ rfl _ _ 24 rfl w0.heap.size 3 i0 (.int .i64 0) 1 Try.underlying24 hi hz0 hz1 _ _ _ _ 3 rfl rfl rfl rfl (by rw [hz2]; omega) (by unfold maxLen; omega) (by simp) ?_
   intro w2 hown hgr
   obtain ⟨t1, t2⟩ := made3 hown
   have bw := below_of_grown hgr
   clear hown hgr
   have T1 := Lib.hid t1
   have T2 := Lib.hid t2
   have BW := Lib.hid bw
   clear t1 t2 bw
   go_wp2
   have t1 := T1.out
   have t2 := T2.out
   have bw := BW.out
   exact ⟨rfl, _, rfl, w0.heap.size, rfl, t1, by have := rs0.out.lt; omega, t2, rs0.out.later bw⟩
 · rintro v w1 ⟨g, rfl, g2, lo, fr, rs⟩
   refine any_one (i := 0) (by kernel_rfl) rfl rfl (fun _ _ h => by cases h) (fun d hd => by cases hd; exact (by decide : 1 < 4)) (fun u => GC w u (.slice (some ⟨g, 0, none⟩) 3 3)) ?_ ?_
   · have RS := Lib.hid rs
     have G2 := Lib.hid g2
     have FR := Lib.hid fr
     clear g2 fr rs
     go_wp2_with fail
     refine (sAtmNew_any _).mono ?_
     rintro e w2 ⟨v0, fp0, v1, fp1, rfl, g0, g1, n, b⟩
     obtain ⟨a0, l0, k0, rfl⟩ := g0.form
     obtain ⟨a1, l1, k1, rfl⟩ := g1.form
     have hg : g < w1.heap.size := G2.out.lt intR_fits g (by simp)
     have HG := Lib.hid (show GC w (.agg #[.slice a0 l0 k0, .slice a1 l1 k1]) (.slice (some ⟨g, 0, none⟩) 3 3) w2 from ⟨a0, a1, l0, k0, l1, k1, g, fp0, fp1, rfl, rfl, g0, g1, G2.out.below intR_fits b, all_app (T := fun b => w.heap.size < b) (fun b' hb => by have := n.lo b' hb; have := RS.out.lt; omega) (fun b hb => by simp at hb; omega), nodup_app n.once (by simp) (fun b hb hb' => by have := n.lo b hb; simp at hb'; omega), n.free.app (FR.out.below (fun b hb => by simp at hb; omega) b), RS.out.later b⟩)
     clear g0 g1 n b
     go_wp2
     exact ⟨rfl, _, rfl, HG.out⟩
   rintro v w2 ⟨a0, a1, l0, k0, l1, k1, g', fp0, fp1, rfl, he, g0, g1, g2', lo, on, fr, rs⟩
   simp only [Value.slice.injEq, Option.some.injEq, Addr.mk.injEq, and_true] at he
   subst he
   clear g2
   have g2 := g2'
   clear g2'
   refine any_one (i := 2) (by kernel_rfl) rfl rfl (fun _ _ h => by cases h) (fun d hd => by cases hd; exact (by decide : 3 < 4)) (fun v w' => v = .agg #[.slice a0 l0 k0, .slice a1 l1 k1, .slice (some ⟨g, 0, none⟩) 3 3, .slice none 0 0, .slice none 0 0, .slice none 0 0] ∧ w' = w2) ?_ ?_
   · clear g0 g1 g2 lo on fr rs
     go_wp2
     exact ⟨rfl, _, rfl, rfl, rfl⟩
   rintro v w3 ⟨rfl, rfl⟩
   have c0 := rs.cells 0 (by omega)
   have c1 := rs.cells 1 (by omega)
   have c2 := rs.cells 2 (by omega)
   have c3 := rs.cells 3 (by omega)
   have c4 := rs.cells 4 (by omega)
   have c5 := rs.cells 5 (by omega)
   have f0 := rs.free 0
   have f1 := rs.free 1
   have f2 := rs.free 2
   have f3 := rs.free 3
   have f4 := rs.free 4
   have f5 := rs.free 5
   have RS := Lib.hid rs
   have G0 := Lib.hid g0
   have G1 := Lib.hid g1
   have G2 := Lib.hid g2
   have LO := Lib.hid lo
   have ON := Lib.hid on
   have FR := Lib.hid fr
   clear g0 g1 g2 lo on fr rs
   refine any_one (i := 3) (by kernel_rfl) rfl rfl (fun _ _ h => by cases h) (fun d hd => by cases hd) (fun v w' => w' = putCells w.heap.size w3 0 [.slice a0 l0 k0, .slice a1 l1 k1, .slice (some ⟨g, 0, none⟩) 3 3, .slice none 0 0, .slice none 0 0, .slice none 0 0]) ?_ ?_
   · go_wp2
     exact ⟨rfl, undef, rfl, rfl⟩
   rintro v w4 hw4
   refine wpAny_done (by kernel_rfl) ?_ _
   have p : ∀ j (hj : j < 6), w4.cell? ⟨w.heap.size, j, none⟩ = some ([.slice a0 l0 k0, .slice a1 l1 k1, .slice (some ⟨g, 0, none⟩) 3 3, .slice none 0 0, .slice none 0 0, .slice none 0 0][j]'hj) := fun j hj => by rw [hw4]; exact put6 RS.out.cells [.slice a0 l0 k0, .slice a1 l1 k1, .slice (some ⟨g, 0, none⟩) 3 3, .slice none 0 0, .slice none 0 0, .slice none 0 0] rfl j hj
   have p0 := p 0 (by omega)
   have p1 := p 1 (by omega)
   have p2 := p 2 (by omega)
   have p3 := p 3 (by omega)
   have p4 := p 4 (by omega)
   have p5 := p 5 (by omega)
   simp only [List.getElem_cons_zero, List.getElem_cons_succ] at p0 p1 p2 p3 p4 p5
   have hsame : ∀ fq : List Nat, (∀ b, b ∈ fq -> w.heap.size < b) -> Same fq w3 w4 := fun fq hq b hb => by rw [hw4]; exact putCells_block (by have := hq b hb; omega) _ _ _
   have hsz : w3.heap.size <= w4.heap.size := by rw [hw4, putCells_size]; exact Nat.le_refl _
   have q0 : ∀ b, b ∈ fp0 -> w.heap.size < b := fun b hb => LO.out b (by simp [hb])
   have q1 : ∀ b, b ∈ fp1 -> w.heap.size < b := fun b hb => LO.out b (by simp [hb])
   have q2 : ∀ b, b ∈ [g] -> w.heap.size < b := fun b hb => LO.out b (by simp at hb; simp [hb])
   have HB := Lib.hid (show Below w.heap.size w w4 by rw [hw4]; exact putCells_below (Nat.le_refl _) _ _ _ RS.out.below)
   have H0 := Lib.hid (G0.out.same intR_fits (hsame _ q0) hsz)
   have H1 := Lib.hid (G1.out.same intR_fits (hsame _ q1) hsz)
   have H2 := Lib.hid (G2.out.same intR_fits (hsame _ q2) hsz)
   have HN : Hid (New (fp0 ++ fp1 ++ [g] ++ [] ++ [] ++ []) w w4) := Lib.hid ⟨fun b hb => Nat.le_of_lt (LO.out b (by simpa using hb)), by simpa using ON.out, fun b hb => (FR.out.same (hsame _ LO.out)) b (by simpa using hb)⟩
   have nl : SlR 5 jobR w4 [] (.slice none 0 0) [] := ⟨none, 0, 0, rfl, rfl, Nat.le_refl _, Nat.zero_le _, .inl ⟨rfl, rfl⟩⟩
   have NL := Lib.hid nl
   clear hsame hsz q0 q1 q2 hw4 p nl c0 c1 c2 c3 c4 c5 f0 f1 f2 f3 f4 f5
   go_wp2
   exact bodyPost_ret (v := .agg #[.slice a0 l0 k0, .slice a1 l1 k1, .slice (some ⟨g, 0, none⟩) 3 3, .slice none 0 0, .slice none 0 0, .slice none 0 0]) (by simp [results, Try.results111, go_sem, p0, p1, p2, p3, p4, p5]) rfl
    ⟨_, fp0, _, fp1, _, [g], _, [], _, [], _, [], rfl, H0.out, H1.out, H2.out, NL.out, NL.out, NL.out, HN.out, HB.out, rfl, rfl, rfl⟩
end Go.Proofs.Ytmcjklicepaiaaa
namespace Go.Proofs.Ytmcjklicepaiaaa
open Go.RowKit Go.ChangeShapes
def MrC (x : MR) : List Value := [.int .i64 x.fr, .int .i64 x.to, .int .i64 x.sl, .bool x.only]
theorem MrC_len (x : MR) : (MrC x).length = 4 := rfl
theorem infoMr : (Try.prog.info? 31).map (fun i => (i.zero, i.size, i.bytes)) = some (some (.agg #[.int .i64 0, .int .i64 0, .int .i64 0, .bool false]), 4, 32) := by kernel_rfl
end Go.Proofs.Ytmcjklicepaiaaa
