/-
  One element more behind a list of the call's own: append, as a step of the walk. No program in sight.
-/
import Derived.Test.YtmmojgopeaelcaaBase
import Derived.OwnWalk
namespace Go.Proofs.Ytmmojgopeaelcaa
set_option linter.unusedVariables false
set_option linter.unusedSimpArgs false
open Go.RowKit Go.WideShapes

variable {P : Program}

/-- 'append(out, x)': x has been laid into a block of its own. -/
theorem wpList_push {ops : Array Oper} {rest : List Oper} {o : Oper} {a : Act} {Q : Exit → Act → World → Prop} {w : World} {W : World} {base n : Nat} {v : Value} {xs : List Value} {news : List Value}
    (hgd : o.guard = none) (s x : Operand) (t e : TypeId) (i : TypeInfo) (z : Value) (size bytes : Nat) (T : TypeId)
    (ho : o.op = .call { callee := .builtin .append, args := #[s, x], argTypes := #[t, t] })
    (ht : P.underlying t = some (.slice e)) (hi : P.info? e = some i) (hz : i.zero = some z) (hsize : i.size = size) (hby : i.bytes = bytes) (hzs : z.cells.size = size) (hsz : 0 < size) (hb8 : bytes ≤ 64)
    (hs : a.eval s = v) (hx : a.eval x = .slice (some ⟨w.heap.size, 0, none⟩) 1 1) (hown : w.ownsRow base e size v n xs) (hl : news.length = size) (h1 : ∀ u ∈ news, u.oneCell' = true)
    (hn : n ≤ 2000000) (hbel : Below W.heap.size W w) (hW : W.heap.size ≤ base) (hbase : base ≤ w.heap.size)
    (h : ∀ v' w', w'.ownsRow base e size v' (n + 1) (xs ++ news) → Below W.heap.size W w' → w.heap.size ≤ w'.heap.size → w.grownBy w' v.ownBlock → wpList P ops Q rest (a.put o.dst v') w') :
    wpList P ops Q (o :: rest) a (w.alloc (.cells news.toArray T)) := by
  refine wpList_append_own _ hgd s x t ho base e i z size bytes ht hi hz hsize hby hzs hsz v n xs hs (hown.alloc _) ⟨w.heap.size, 0, none⟩ 1 1 news hx (by simpa using hl) ?_ h1 (by unfold maxLen; omega) ?_ (by simp; omega) ?_
  · intro j u hj
    rw [add_plain, Nat.zero_add]
    exact alloc1_new w _ _ j (by simpa using hj)
  · have : (n + 1) * bytes ≤ 2000001 * 64 := Nat.mul_le_mul (by omega) hb8
    omega
  · intro v' w' hown' hgr _
    have hz1 : w.heap.size ≤ w'.heap.size := by have := hgr.size; simp at this; omega
    have hg' : w.grownBy w' v.ownBlock := ⟨hgr.os, hgr.tape, hgr.output, hz1, fun k hk hne => (hgr.block k (by simp; omega) hne).trans (Below.heap_alloc _ _ _ hk)⟩
    exact h v' w' hown' (hbel.grown hg' hbel.size (fun k hk => by have := (hown.lt k hk).1; omega)) hz1 hg'

end Go.Proofs.Ytmmojgopeaelcaa
