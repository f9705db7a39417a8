/-
 Texts of this claim laid together: OwnQ.
-/
import Derived.Test.YtaeiddoccfaheaaGreatPk31
set_option linter.unusedVariables false
set_option linter.unusedSimpArgs false
namespace Go.Proofs.YtaeiddoccfaheaaGreat
open Go.RowKit Go.WideShapes
variable {α : Type} {K : Nat} {R : Pr α} {e : TypeId} {w w' : World} {base : Nat} {v : Value} {l : List α}
theorem OwnP.chg (F : Fits K R) {fq : List Nat} {rows : List (CellsK K)} {fps : List (List Nat)} (h : OwnP K R e base w v l rows fps) (hc : Chg fq w w') (hf : ∀ b, b ∈ fq -> v.ownBlock ≠ some b ∧ b ∉ fps.flatten) : OwnP K R e base w' v l rows fps := by
 have hd : ∀ b, b ∈ fps.flatten -> b ∉ fq := fun b hb hm => (hf b hm).2 hb
 refine ⟨?_, h.len, h.lenf, fun i h0 h1 h2 => F.chg (h.els i h0 h1 h2) hc fun b hb => hd b (List.mem_flatten.2 ⟨_, List.getElem_mem h2, hb⟩), h.lo, h.once, h.free.chg (h.lt F) hc hd, h.apart⟩
 rcases h.own.2 with ⟨q, h0⟩ | ⟨g, cap, cur, q, hg, r⟩
 · exact ⟨h.own.1, .inl ⟨q, h0⟩⟩
 · have hgl : g < w.heap.size := by
    rcases Nat.lt_or_ge g w.heap.size with hh | hh
    · exact hh
    · have := r.1; simp [Array.getElem?_eq_none hh] at this
   exact ⟨h.own.1, .inr ⟨g, cap, cur, q, hg, (hc.block g hgl (fun hm => (hf g hm).1 (by rw [q]; rfl))).trans r.1, r.2⟩⟩
theorem OwnP.ltBlock {rows : List (CellsK K)} {fps : List (List Nat)} (h : OwnP K R e base w v l rows fps) : ∀ b, v.ownBlock = some b -> b < w.heap.size := fun b hb => (World.ownsRow.lt h.own b hb).2
theorem wpList_pushQ {P : Program} {ops : Array Oper} {rest : List Oper} {o : Oper} {a : Act} {Q : Exit -> Act -> World -> Prop} {c2 : Nat} {A : Addr} {x : α} {cs : List Value} {f : List Nat} {rows : List (CellsK K)} {fps : List (List Nat)}
 (hgd : o.guard = none) (s y : Operand) (t e : TypeId) (i : TypeInfo) (z : Value) (bytes : Nat) (F : Fits K R)
 (ho : o.op = .call { callee := .builtin .append, args := #[s, y], argTypes := #[t, t] })
 (ht : P.underlying t = some (.slice e)) (hi : P.info? e = some i) (hz : i.zero = some z) (hsize : i.size = K) (hby : i.bytes = bytes) (hzs : z.cells.size = K) (hsz : 0 < K) (hb8 : bytes <= 128)
 (hs : a.eval s = v) (hy : a.eval y = .slice (some A) 1 c2) (hp : OwnP K R e base w v l rows fps) (hR : R w x cs f) (hlo : ∀ b, b ∈ f -> base <= b) (h1f : f.Nodup) (hff : Free f w) (hap : ∀ b, b ∈ f -> v.ownBlock ≠ some b ∧ b ∉ fps.flatten) (hcell : ∀ j (hj : j < cs.length), w.cell? (A.add j) = some cs[j]) (h1 : ∀ u ∈ cs, u.oneCell' = true)
 (hn : l.length <= 2000000) (hbw : base <= w.heap.size)
 (h : ∀ v' w' rows', OwnP K R e base w' v' (l ++ [x]) rows' (fps ++ [f]) -> Below base w w' -> (∀ b, b < w.heap.size -> v.ownBlock ≠ some b -> w'.heap[b]? = w.heap[b]?) -> (v'.ownBlock = v.ownBlock ∨ v'.ownBlock = some w.heap.size) -> wpList P ops Q rest (a.put o.dst v') w') :
 wpList P ops Q (o :: rest) a w := by
 have hlen := hp.len
 have hlenf := hp.lenf
 have hcl := F.len hR
 refine wpList_appendB (c := cellsK) (news := [⟨cs, hcl⟩]) hgd s y t e i z bytes cellsK_len ho ht hi hz hsize hby hzs hsz hb8 hs hy hp.own rfl (by decide) ?_ (oneCells_flat h1) (by omega) (by omega) hbw ?_
 · intro j u hj
   simp only [List.flatMap_cons, List.flatMap_nil, List.append_nil] at hj
   obtain ⟨hj1, hj2⟩ := List.getElem?_eq_some_iff.1 hj
   rw [<- hj2]
   exact hcell j hj1
 · intro v' w' ho' hgr hblk
   have hbel : Below base w w' := grown_below hp.own hgr hbw
   have hkeep : ∀ b, b < w.heap.size -> v.ownBlock ≠ some b -> w'.heap[b]? = w.heap[b]? := fun b hb hne => hgr.block b hb (fun q => hne q.symm)
   have hflt : ∀ b, b ∈ f -> b < w.heap.size := F.lt hR
   have hplt : ∀ b, b ∈ fps.flatten -> b < w.heap.size := hp.lt F
   have hpo : ∀ b, b ∈ fps.flatten -> v.ownBlock ≠ some b := fun b hb q => hp.apart b q hb
   refine h v' w' (rows ++ [⟨cs, hcl⟩]) ⟨ho', by simp [hlen], by simp [hlenf], fun j h0 h2 h3 => ?_, ?_, ?_, ?_, ?_⟩ hbel hkeep hblk
   · by_cases hj : j < l.length
     · rw [List.getElem_append_left hj, List.getElem_append_left (by omega : j < rows.length), List.getElem_append_left (by omega : j < fps.length)]
       have hm : ∀ b, b ∈ fps[j] -> b ∈ fps.flatten := fun b hb => List.mem_flatten.2 ⟨_, List.getElem_mem _, hb⟩
       exact F.same (hp.els j hj (by omega) (by omega)) (fun b hb => hkeep b (hplt b (hm b hb)) (hpo b (hm b hb))) hgr.size
     · obtain rfl : j = l.length := by simp at h0; omega
       rw [List.getElem_append_right (by omega), List.getElem_append_right (by omega), List.getElem_append_right (by omega)]
       simp only [Nat.sub_self, hlen, hlenf, List.getElem_cons_zero]
       exact F.same hR (fun b hb => hkeep b (hflt b hb) (hap b hb).1) hgr.size
   · intro b hb
     simp only [List.flatten_append, List.mem_append, List.flatten_cons, List.flatten_nil, List.append_nil] at hb
     exact hb.elim (hp.lo b) (hlo b)
   · simp only [List.flatten_append, List.flatten_cons, List.flatten_nil, List.append_nil]
     exact nodup_app hp.once h1f fun b hb hb' => (hap b hb').2 hb
   · simp only [List.flatten_append, List.flatten_cons, List.flatten_nil, List.append_nil]
     exact (hp.free.same fun b hb => hkeep b (hplt b hb) (hpo b hb)).app (hff.same fun b hb => hkeep b (hflt b hb) (hap b hb).1)
   · intro b hb hm
     simp only [List.flatten_append, List.mem_append, List.flatten_cons, List.flatten_nil, List.append_nil] at hm
     rcases hblk with q | q
     · rw [q] at hb
       rcases hm with hm | hm
       · exact hpo b hm hb
       · exact (hap b hm).1 hb
     · rw [hb] at q
       obtain rfl : b = w.heap.size := Option.some.inj q
       rcases hm with hm | hm
       · have := hplt _ hm; omega
       · have := hflt _ hm; omega
end Go.Proofs.YtaeiddoccfaheaaGreat
