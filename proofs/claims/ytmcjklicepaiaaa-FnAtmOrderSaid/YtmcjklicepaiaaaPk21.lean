/-
 Texts of this claim laid together: Tr Own2 Clone Facts2 Told.
-/
import Derived.Test.YtmcjklicepaiaaaPk04
import Derived.Test.YtmcjklicepaiaaaPk02
import Derived.Test.YtmcjklicepaiaaaProg
import Derived.OwnWalk
import Derived.KernelRfl
import Derived.WalkSpells
import Derived.WalkSmall
import Derived.Test.YtmcjklicepaiaaaPk03
import Derived.Test.YtmcjklicepaiaaaPk08
import Derived.Test.YtmcjklicepaiaaaPk05
import Derived.Test.YtmcjklicepaiaaaPk07
import Derived.Test.YtmcjklicepaiaaaPk16
import Derived.StillTailTactics
import Derived.Deep.QuietTactic
import Derived.BigQuiet
import Derived.Deep.Cut
set_option linter.unusedVariables false
set_option linter.unusedSimpArgs false
namespace Go.Proofs.Ytmcjklicepaiaaa
open Go.RowKit Go.WideShapes
abbrev Tr (α : Type) (K : Nat) := α × CellsK K × List Nat
def trC {α : Type} {K : Nat} (p : Tr α K) : List Value := p.2.1.1
abbrev flatR {α : Type} (c : α -> List Value) : Pr α := fun _ x cs fp => cs = c x ∧ fp = []
variable {α : Type} {K : Nat} {R : Pr α} {w w' : World} {v : Value} {l : List α}
theorem SlR.tr (F : Fits K R) {fp : List Nat} (h : SlR K R w l v fp) : ∃ (L : List (Tr α K)) (fq : List Nat), L.map (·.1) = l ∧ SlR K (flatR trC) w L v fq ∧ (∀ p, p ∈ L -> R w p.1 p.2.1.1 p.2.2 ∧ ∀ b, b ∈ p.2.2 -> b ∈ fp) ∧ ∀ b, b ∈ fq -> b ∈ fp := by
 obtain ⟨a, n, cap, rfl, hn, hcap, hcm, ⟨rfl, rfl⟩ | ⟨b, off, fps, rfl, hb, rfl, hf, hc⟩⟩ := h
 · exact ⟨[], [], rfl, ⟨a, n, cap, rfl, hn, hcap, hcm, .inl ⟨rfl, rfl⟩⟩, fun p hp => by simp at hp, fun b hb => by simp at hb⟩
 · replace hn : l.length = n := hn
   have main : ∀ q, q <= l.length -> ∃ L : List (Tr α K), L.length = q ∧ L.map (·.1) = l.take q ∧ ∀ i (h : i < L.length) (h1 : i < fps.length), L[i].2.2 = fps[i] ∧ R w L[i].1 L[i].2.1.1 L[i].2.2 ∧ ∀ j (hj : j < (trC L[i]).length), w.cell? ⟨b, off + i * K + j, none⟩ = some (trC L[i])[j] := by
    intro q
    induction q with
    | zero => exact fun _ => ⟨[], rfl, by simp, fun i h => absurd h (by simp)⟩
    | succ q ih =>
     intro hq
     obtain ⟨L, h1, h2, h3⟩ := ih (by omega)
     obtain ⟨cs, hR, hcell⟩ := hc q (by omega) (by omega)
     refine ⟨L ++ [(l[q], ⟨cs, F.len hR⟩, fps[q])], by simp [h1], by rw [List.map_append, h2, List.take_succ_eq_append_getElem (by omega)]; rfl, fun i h h' => ?_⟩
     by_cases hiq : i < q
     · simp only [List.getElem_append_left (by omega : i < L.length)]
       exact h3 i (by omega) h'
     · obtain rfl : i = L.length := by simp [h1] at h; omega
       subst h1
       simp only [List.getElem_append_right (Nat.le_refl _), Nat.sub_self, List.getElem_cons_zero]
       exact ⟨trivial, hR, hcell⟩
   obtain ⟨L, h1, h2, h3⟩ := main l.length (Nat.le_refl _)
   rw [List.take_of_length_le (Nat.le_refl _)] at h2
   refine ⟨L, b :: (List.replicate L.length []).flatten, h2, ⟨_, n, cap, rfl, by omega, hcap, hcm, .inr ⟨b, off, List.replicate L.length [], rfl, hb, rfl, by simp, fun i hi hi' => ⟨trC L[i], ⟨rfl, by simp⟩, (h3 i hi (by omega)).2.2⟩⟩⟩, fun p hp => ?_, fun c hc => ?_⟩
   · obtain ⟨i, hi, rfl⟩ := List.mem_iff_getElem.1 hp
     obtain ⟨e, hR, _⟩ := h3 i hi (by omega)
     refine ⟨hR, fun c hcm => ?_⟩
     rw [e] at hcm
     exact List.mem_cons_of_mem _ (List.mem_flatten.2 ⟨_, List.getElem_mem _, hcm⟩)
   · rcases List.mem_cons.1 hc with rfl | hc
     · exact List.mem_cons_self ..
     · obtain ⟨f, hf1, hf2⟩ := List.mem_flatten.1 hc
       rw [List.eq_of_mem_replicate hf1] at hf2
       simp at hf2
end Go.Proofs.Ytmcjklicepaiaaa
namespace Go.Proofs.Ytmcjklicepaiaaa
open Go.RowKit Go.WideShapes
variable {α : Type} {K : Nat} {c : α -> List Value} {e : TypeId} {w w' : World} {base : Nat} {v : Value} {l : List α}
theorem wpList_append_no {P : Program} {ops : Array Oper} {rest : List Oper} {o : Oper} {a : Act} {Q : Exit -> Act -> World -> Prop} {n cap c2 : Nat} {A : Option Addr} {B : Addr}
 (hgd : o.guard = none) (s x : Operand) (t e : TypeId) (i : TypeInfo)
 (ho : o.op = .call { callee := .builtin .append, args := #[s, x], argTypes := #[t, t] })
 (ht : P.underlying t = some (.slice e)) (hi : P.info? e = some i)
 (hs : a.eval s = .slice (some B) n cap) (hx : a.eval x = .slice A 0 c2) (hn : n <= cap)
 (h : wpList P ops Q rest (a.put o.dst (.slice (some B) n cap)) w) :
 wpList P ops Q (o :: rest) a w := by
 refine wpList_plain hgd fun K' hK' => ?_
 have hr : (Builtin.append_ #[t, t] o.type #[.slice (some B) n cap, .slice A 0 c2]).run P w = .ok (.slice (some B) n cap) w := by
  cases A <;> simp [Builtin.append_, run_underlying ht, sizeOf, typeInfo, hi, Builtin.lenOf, Builtin.firstCells, hn, storeCells, loadCells, loadCellsFrom]
 unfold Oper.wp execOp
 simp only [ho, resolve, invoke, builtin, Sem.run_bind, Sem.run_pure, Result.andThen_ok, List.map_toArray, List.map_cons, List.map_nil, hs, hx, hr]
 exact hK' _ _ h
theorem wpList_append_lit {P : Program} {ops : Array Oper} {rest : List Oper} {o : Oper} {a : Act} {Q : Exit -> Act -> World -> Prop} {m c2 g : Nat} {news : List α} {A : Option Addr} {fq : List Nat}
 (hgd : o.guard = none) (s x : Operand) (t e : TypeId) (i : TypeInfo) (z : Value) (bytes : Nat) (hk : ∀ x, (c x).length = K)
 (ho : o.op = .call { callee := .builtin .append, args := #[s, x], argTypes := #[t, t] })
 (ht : P.underlying t = some (.slice e)) (hi : P.info? e = some i) (hz : i.zero = some z) (hsize : i.size = K) (hby : i.bytes = bytes) (hzs : z.cells.size = K) (hK0 : 0 < K) (hb8 : bytes <= 128)
 (hs : a.eval s = .slice (some ⟨g, 0, none⟩) 0 0) (hx : a.eval x = .slice A m c2) (hown : OwnR K c e base w (.slice (some ⟨g, 0, none⟩) 0 0) []) (hl : SlR K (fun _ x cs fp => cs = c x ∧ fp = []) w news (.slice A m c2) fq) (hbase : base <= w.heap.size)
 (hmm : m <= 2000000)
 (h : ∀ v' w', OwnR K c e base w' v' news -> Below w.heap.size w w' -> wpList P ops Q rest (a.put o.dst v') w') :
 wpList P ops Q (o :: rest) a w := by
 have hlen : news.length = m := by
  obtain ⟨a', n', c', e1, hn, _⟩ := hl
  simp only [Value.slice.injEq] at e1
  rw [hn, e1.2.1]
 by_cases h0 : m = 0
 · subst h0
   obtain rfl : news = [] := List.eq_nil_of_length_eq_zero hlen
   exact wpList_append_no hgd s x t e i ho ht hi hs hx (Nat.le_refl _) (h _ _ hown (Below.refl _ _))
 · have hne : news ≠ [] := fun e => h0 (by rw [<- hlen, e]; rfl)
   have h2 := hl
   obtain ⟨a', n', c', e1, hn, _, _, ⟨rfl, _⟩ | ⟨b, off, fps, rfl, _⟩⟩ := hl
   · exact absurd rfl hne
   · simp only [Value.slice.injEq] at e1
     obtain ⟨rfl, rfl, rfl⟩ := e1
     exact wpList_append_empty hgd s x t e i z bytes hk ho ht hi hz hsize hby hzs hb8 hs hx hlen (by omega) (SlR.flat_cells hk hK0 h2) hmm (fun v' w' ho' hb' => h v' w' (OwnR.lower ho' hbase) hb')
end Go.Proofs.Ytmcjklicepaiaaa
namespace Go.Proofs.Ytmcjklicepaiaaa
open Go.RowKit Go.ChangeShapes
theorem infoCI : (Try.prog.info? 3).map (fun i => (i.zero, i.size, i.bytes)) = some (some (.int .i64 0), 1, 8) := by kernel_rfl
theorem slClipJ (a : Option Addr) (n c : Nat) (hc : n <= c) (hm : c <= maxLen) (w : World) :
 Calls Try.prog 91 #[.slice a n c] w fun e w' => e = .returned (.slice a n n) ∧ w = w' := by
 unfold maxLen at hm
 go_enter Try.func91, Try.ntmps91
 go_wp2
 go_ret
 simp
end Go.Proofs.Ytmcjklicepaiaaa
namespace Go.Proofs.Ytmcjklicepaiaaa
open Go.RowKit
def FOwn {α : Type} (K : Nat) (c : α -> List Value) (e : TypeId) (base : Nat) (l : List α) : Fact := fun v w => OwnR K c e base w v l
theorem stOwn {α : Type} (K : Nat) (c : α -> List Value) (e : TypeId) (base : Nat) (l : List α) : Stable [] (FOwn K c e base l) := fun _ _ _ h hc => OwnR.below h hc.below
end Go.Proofs.Ytmcjklicepaiaaa
namespace Go.Proofs.Ytmcjklicepaiaaa
def tbl5Rsp1 : List (List Nat) := [[], [0], [], [2], [], [], [5], [4, 5, 6], [0, 1, 2, 3, 4, 5, 6, 7], [0, 1, 2, 3, 4, 5, 6, 7, 8]]
open Go.RowKit Go.ChangeShapes
def FLit {α : Type} (K : Nat) (c : α -> List Value) (e : TypeId) (base : Nat) : Fact := fun v w => ∃ q, v = .slice (some ⟨q, 0, none⟩) 0 0 ∧ OwnR K c e base w v []
theorem stLit {α : Type} (K : Nat) (c : α -> List Value) (e : TypeId) (base : Nat) : Stable [] (FLit K c e base) := fun _ _ _ ⟨q, e, h⟩ hc => ⟨q, e, h.below hc.below⟩
def FRspN (W : World) (x : Rsp) : Fact := fun v w => ∃ (dv : Value) (f : List Nat), v = .agg #[.int .i64 x.id, .int .i64 x.code, dv] ∧ SlR 1 intR w x.data dv f ∧ New f W w
theorem stRspN (W : World) (x : Rsp) : Stable [] (FRspN W x) := fun _ _ _ ⟨dv, f, e, h, hn⟩ hc => ⟨dv, f, e, h.chg intR_fits hc (fun _ _ => by simp), hn.later (h.lt intR_fits) hc⟩
def FJobN (W : World) (x : Job) : Fact := fun v w => ∃ (dv : Value) (f : List Nat), v = .agg #[.int .i64 x.who, .int .i64 x.n, .int .i64 x.rsp.id, .int .i64 x.rsp.code, dv] ∧ SlR 1 intR w x.rsp.data dv f ∧ New f W w
theorem stJobN (W : World) (x : Job) : Stable [] (FJobN W x) := fun _ _ _ ⟨dv, f, e, h, hn⟩ hc => ⟨dv, f, e, h.chg intR_fits hc (fun _ _ => by simp), hn.later (h.lt intR_fits) hc⟩
set_option maxRecDepth 100000 in
set_option maxHeartbeats 1600000 in
theorem l5Rsp_any (x : Rsp) (v : Value) (fp : List Nat) (hs : x.data.length <= 1048576) (w : World) (g : SlR 1 intR w x.data v fp) :
 Calls Try.prog 81 #[.agg #[.int .i64 x.id, .int .i64 x.code, v]] w fun e w' => ∃ v' fp', e = .returned (.agg #[.int .i64 x.id, .int .i64 x.code, v']) ∧ SlR 1 intR w' x.data v' fp' ∧ New fp' w w' ∧ Below w.heap.size w w' := by
 obtain ⟨da, dn, dc, rfl⟩ := g.form
 obtain ⟨i0, hi, hz0, hz1, hz2⟩ := info_parts infoCI
 obtain ⟨w0, hw0⟩ : ∃ w0, w0 = (w.alloc (.cells #[.int .i64 x.id, .int .i64 x.code, .slice da dn dc] 62)).alloc (.cells #[.int .i64 0, .int .i64 0, .slice none 0 0] 62) := ⟨_, rfl⟩
 have hb0 : Below w.heap.size w w0 := by rw [hw0]; exact (below_alloc w _).trans ((below_alloc _ _).mono (by simp))
 have X0 : w0.cell? ⟨w.heap.size, 0, none⟩ = some (.int .i64 x.id) := by rw [hw0]; exact alloc_keep (alloc1_new _ _ _ 0 rfl) _
 have X1 : w0.cell? ⟨w.heap.size, 1, none⟩ = some (.int .i64 x.code) := by rw [hw0]; exact alloc_keep (alloc1_new _ _ _ 1 rfl) _
 have X2 : w0.cell? ⟨w.heap.size, 2, none⟩ = some (.slice da dn dc) := by rw [hw0]; exact alloc_keep (alloc1_new _ _ _ 2 rfl) _
 have Y0 : w0.cell? ⟨w.heap.size + 1, 0, none⟩ = some (.int .i64 0) := by rw [hw0]; exact alloc2_new _ _ _ _ _ 0 rfl
 have Y1 : w0.cell? ⟨w.heap.size + 1, 1, none⟩ = some (.int .i64 0) := by rw [hw0]; exact alloc2_new _ _ _ _ _ 1 rfl
 have Y2 : w0.cell? ⟨w.heap.size + 1, 2, none⟩ = some (.slice none 0 0) := by rw [hw0]; exact alloc2_new _ _ _ _ _ 2 rfl
 have Z0 : w0.frozen? ⟨w.heap.size + 1, 0, none⟩ = false := by rw [hw0]; exact World.frozen?_alloc_at _ _ _ _ (by simp)
 have Z1 : w0.frozen? ⟨w.heap.size + 1, 1, none⟩ = false := by rw [hw0]; exact World.frozen?_alloc_at _ _ _ _ (by simp)
 have Z2 : w0.frozen? ⟨w.heap.size + 1, 2, none⟩ = false := by rw [hw0]; exact World.frozen?_alloc_at _ _ _ _ (by simp)
 have hz : w.heap.size + 1 < w0.heap.size := by rw [hw0]; simp
 have G := Lib.hid (SlR.below intR_fits g hb0)
 have B := Lib.hid hb0
 clear g hb0
 go_enter Try.func81, Try.ntmps81
 go_upto_region 1 with fail
 rw [<- hw0]
 clear hw0
 have hst : ∀ F, F ∈ [FEq (.pointer (some ⟨w.heap.size, 0, none⟩)), FEq (.int .i64 x.id), FEq (.pointer (some ⟨w.heap.size, 1, none⟩)), FEq (.int .i64 x.code), FLit 1 IntC 3 w0.heap.size, FEq (.pointer (some ⟨w.heap.size, 2, none⟩)), FEq (.slice da dn dc), FOwn 1 IntC 3 w0.heap.size x.data] -> Stable [] F := by
  simp only [List.forall_mem_cons]
  exact ⟨stEq _ _, stEq _ _, stEq _ _, stEq _ _, stLit _ _ _ _, stEq _ _, stEq _ _, stOwn _ _ _ _ _, fun _ h => by simp at h⟩
 refine wp_region_tail (by kernel_rfl) (fun i => (tbl5Rsp1 : List (List Nat)).getD i []) (facts [FEq (.pointer (some ⟨w.heap.size, 0, none⟩)), FEq (.int .i64 x.id), FEq (.pointer (some ⟨w.heap.size, 1, none⟩)), FEq (.int .i64 x.code), FLit 1 IntC 3 w0.heap.size, FEq (.pointer (some ⟨w.heap.size, 2, none⟩)), FEq (.slice da dn dc), FOwn 1 IntC 3 w0.heap.size x.data]) (fun m w' => Below w0.heap.size w0 w') 12 10 8 [some 3, some 4, some 5, some 6, some 7, some 8, some 9, some 10] _ rfl rfl (by decide) rfl rfl (by kernel_rfl) (by kernel_rfl) [] (by kernel_rfl) (fun g b hm v w h => by simp at hm) ?h0 (all_lt (n := 8) ?hop) ?hend
 case h0 => exact (Below.refl _ _).drew
 case hop =>
  refine ⟨⟨⟨⟨⟨⟨⟨⟨trivial, ?_⟩, ?_⟩, ?_⟩, ?_⟩, ?_⟩, ?_⟩, ?_⟩, ?_⟩
  · refine Owes.q 12 (fun u => [(1, .pointer (some ⟨w.heap.size, 0, none⟩))]) fun u w' hI hR => ?_; dsimp only [frm, List.foldl, List.replicate, List.set]; obtain ⟨_, hI⟩ := hI; have k0 := keep_cell hI X0; have k1 := keep_cell hI X1; have k2 := keep_cell hI X2; clear hI hst hR; go_wp2; exact ⟨rfl, _, rfl, rfl, rfl⟩
  · refine Owes.q 12 (fun u => [(3, u 0)]) fun u w' hI hR => ?_; dsimp only [frm, List.foldl, List.replicate, List.set]; obtain ⟨_, hI⟩ := hI; have k0 := keep_cell hI X0; have k1 := keep_cell hI X1; have k2 := keep_cell hI X2; have e0 : u 0 = _ := hR 0 (by decide); rw [e0]; clear hI hst hR; go_wp2; exact ⟨rfl, _, rfl, rfl, rfl⟩
  · refine Owes.q 12 (fun u => [(1, .pointer (some ⟨w.heap.size, 0, none⟩))]) fun u w' hI hR => ?_; dsimp only [frm, List.foldl, List.replicate, List.set]; obtain ⟨_, hI⟩ := hI; have k0 := keep_cell hI X0; have k1 := keep_cell hI X1; have k2 := keep_cell hI X2; clear hI hst hR; go_wp2; exact ⟨rfl, _, rfl, rfl, rfl⟩
  · refine Owes.q 12 (fun u => [(5, u 2)]) fun u w' hI hR => ?_; dsimp only [frm, List.foldl, List.replicate, List.set]; obtain ⟨_, hI⟩ := hI; have k0 := keep_cell hI X0; have k1 := keep_cell hI X1; have k2 := keep_cell hI X2; have e2 : u 2 = _ := hR 2 (by decide); rw [e2]; clear hI hst hR; go_wp2; exact ⟨rfl, _, rfl, rfl, rfl⟩
  · refine Owes.mk _ rfl rfl (fun _ _ h => by cases h) fun u m w' hm hI hR => ⟨⟨(frm 12 []).toArray, []⟩, rfl, fun d hd => by cases hd; exact frm_lt (by decide), ?_⟩
    dsimp only [frm, List.foldl, List.replicate, List.set]
    have k0 := keep_cell hI X0
    have k1 := keep_cell hI X1
    have k2 := keep_cell hI X2
    have HI := Lib.hid hI
    have HS := Lib.hid (facts_stable hst ((below_alloc w' (.cells #[] 3)).chg []))
    clear hI hst hR
    go_wp2
    exact ⟨rfl, _, rfl, ⟨_, rfl, OwnR.lit w' #[] 0 [] IntC_len rfl rfl HI.out.size (Nat.zero_le _)⟩, HI.out.trans ((below_alloc _ _).mono HI.out.size), HS.out⟩
  · refine Owes.q 12 (fun u => [(1, .pointer (some ⟨w.heap.size, 0, none⟩))]) fun u w' hI hR => ?_; dsimp only [frm, List.foldl, List.replicate, List.set]; obtain ⟨_, hI⟩ := hI; have k0 := keep_cell hI X0; have k1 := keep_cell hI X1; have k2 := keep_cell hI X2; clear hI hst hR; go_wp2; exact ⟨rfl, _, rfl, rfl, rfl⟩
  · refine Owes.q 12 (fun u => [(8, u 5)]) fun u w' hI hR => ?_; dsimp only [frm, List.foldl, List.replicate, List.set]; obtain ⟨_, hI⟩ := hI; have k0 := keep_cell hI X0; have k1 := keep_cell hI X1; have k2 := keep_cell hI X2; have e5 : u 5 = _ := hR 5 (by decide); rw [e5]; clear hI hst hR; go_wp2; exact ⟨rfl, _, rfl, rfl, rfl⟩
  · refine Owes.mk _ rfl rfl (fun _ _ h => by cases h) fun u m w' hm hI hR => ⟨⟨(frm 12 [(7, u 4), (9, u 6)]).toArray, []⟩, rfl, fun d hd => by cases hd; exact frm_lt (by decide), ?_⟩
    dsimp only [frm, List.foldl, List.replicate, List.set]
    have e6 : u 6 = _ := hR 6 (by decide)
    have k0 := keep_cell hI X0
    have k1 := keep_cell hI X1
    have k2 := keep_cell hI X2
    rw [e6]
    clear e6
    obtain ⟨q, e4, o4⟩ := hR 4 (by decide)
    rw [e4] at o4
    rw [e4]
    have gg : SlR 1 (flatR IntC) w' x.data (.slice da dn dc) fp := SlR.below intR_fits G.out hI
    refine wpList_append_lit (K := 1) (c := IntC) (news := x.data) rfl _ _ 24 3 i0 (.int .i64 0) 8 IntC_len rfl Try.underlying24 hi hz0 hz1 hz2 rfl (by decide) (by decide) rfl rfl o4 gg hI.size (by have := gg; obtain ⟨_, _, _, e, h, _⟩ := this; simp only [Value.slice.injEq] at e; omega) ?_
    intro v' w2 ho hb
    exact ⟨rfl, _, rfl, ho, hI.trans (hb.mono hI.size), facts_stable hst (hb.chg [])⟩
 case hend =>
  intro u w' hI hR
  simp only [setAll, List.set_cons_zero, List.set_cons_succ]
  have e1 : u 1 = _ := hR 1 (by decide)
  have e3 : u 3 = _ := hR 3 (by decide)
  have o7 : OwnR 1 IntC 3 w0.heap.size w' (u 7) x.data := hR 7 (by decide)
  obtain ⟨va, vn, vc, e7, _⟩ := o7.slice
  rw [e7] at o7
  rw [e1, e3, e7]
  have O := Lib.hid o7
  have HI := Lib.hid hI
  replace Y0 := keep_cell hI Y0
  replace Y1 := keep_cell hI Y1
  replace Y2 := keep_cell hI Y2
  replace Z0 := keep_free hI hz Z0
  replace Z1 := keep_free hI hz Z1
  replace Z2 := keep_free hI hz Z2
  replace B := Lib.hid (B.out.trans (hI.mono B.out.size))
  have BZ := Lib.hid hI.size
  clear hR hst e1 e3 e7 o7 hI X0 X1 X2
  go_wp2
  obtain ⟨fp', g1, g2, g3, g4⟩ := intRow_reads O.out
  have hd : ∀ b, b ∈ fp' -> b ∉ [w.heap.size + 1] := fun b hb hm => by have := g2 b hb; simp at hm; omega
  have hc3 := chg3 (w.heap.size + 1) w' (.int .i64 x.id) (.int .i64 x.code) (.slice va vn vc)
  exact bodyPost_ret (v := .agg #[.int .i64 x.id, .int .i64 x.code, .slice va vn vc]) (by simp [results, Try.results81, go_sem, Y0, Y1, Y2]) rfl ⟨_, fp', rfl, g1.chg intR_fits hc3 hd, ⟨fun b hb => by have := g2 b hb; have := B.out.size; have := BZ.out; omega, g3, g4.chg (g1.lt intR_fits) hc3 hd⟩, ((B.out.chg [w.heap.size + 1]).trans' hc3).home (fun b hb => by simp at hb; omega)⟩
end Go.Proofs.Ytmcjklicepaiaaa
