/-
 Texts of this claim laid together: OwnP Tr.
-/
import Derived.Test.YtaeiddoccfaheaaGreatPk04
import Derived.Test.YtaeiddoccfaheaaGreatPk07
import Derived.Test.YtaeiddoccfaheaaGreatPk15
import Derived.Test.YtaeiddoccfaheaaGreatPk16
set_option linter.unusedVariables false
set_option linter.unusedSimpArgs false
namespace Go.Proofs.YtaeiddoccfaheaaGreat
open Go.RowKit Go.WideShapes
abbrev CellsK (K : Nat) := {L : List Value // L.length = K}
def cellsK {K : Nat} (x : CellsK K) : List Value := x.1
theorem cellsK_len {K : Nat} (x : CellsK K) : (cellsK x).length = K := x.2
variable {α : Type} {K : Nat} {R : Pr α} {e : TypeId} {w w' : World} {base : Nat} {v : Value} {l : List α}
structure OwnP (K : Nat) (R : Pr α) (e : TypeId) (base : Nat) (w : World) (v : Value) (l : List α) (rows : List (CellsK K)) (fps : List (List Nat)) : Prop where
 own : OwnR K cellsK e base w v rows
 len : rows.length = l.length
 lenf : fps.length = l.length
 els : ∀ i (h : i < l.length) (h1 : i < rows.length) (h2 : i < fps.length), R w l[i] rows[i].1 fps[i]
 lo : ∀ b, b ∈ fps.flatten -> base <= b
 once : fps.flatten.Nodup
 free : Free fps.flatten w
 apart : ∀ b, v.ownBlock = some b -> b ∉ fps.flatten
def OwnE (K : Nat) (R : Pr α) (e : TypeId) (base : Nat) (w : World) (v : Value) (l : List α) : Prop := ∃ rows fps, OwnP K R e base w v l rows fps
theorem OwnP.lt (F : Fits K R) {rows : List (CellsK K)} {fps : List (List Nat)} (h : OwnP K R e base w v l rows fps) : ∀ b, b ∈ fps.flatten -> b < w.heap.size := by
 intro b hb
 obtain ⟨f, hf, hbf⟩ := List.mem_flatten.1 hb
 obtain ⟨i, hi, rfl⟩ := List.mem_iff_getElem.1 hf
 have := h.len
 have := h.lenf
 exact F.lt (h.els i (by omega) (by omega) hi) b hbf
theorem OwnE.nil (w : World) (base : Nat) : OwnE K R e base w (.slice none 0 0) [] :=
 ⟨[], [], OwnR.nil w base, rfl, rfl, fun i h => absurd h (by simp), by simp, by simp, fun b hb => by simp at hb, by simp⟩
theorem OwnE.lit (w : World) (hb : base <= w.heap.size) : OwnE K R e base (w.alloc (.cells #[] e)) (.slice (some ⟨w.heap.size, 0, none⟩) 0 0) [] :=
 ⟨[], [], OwnR.lit w #[] 0 [] cellsK_len rfl rfl hb (Nat.zero_le _), rfl, rfl, fun i h => absurd h (by simp), by simp, by simp, fun b hb => by simp at hb, by simp⟩
theorem OwnE.below (F : Fits K R) (h : OwnE K R e base w v l) (hb : Below w.heap.size w w') : OwnE K R e base w' v l := by
 obtain ⟨rows, fps, h⟩ := h
 exact ⟨rows, fps, h.own.below hb, h.len, h.lenf, fun i h0 h1 h2 => F.below (h.els i h0 h1 h2) hb, h.lo, h.once, h.free.below (h.lt F) hb, h.apart⟩
theorem OwnE.chg (F : Fits K R) {fq : List Nat} (h : OwnE K R e base w v l) (hc : Chg fq w w') (hf : ∀ b, b ∈ fq -> b < base) : OwnE K R e base w' v l := by
 obtain ⟨rows, fps, h⟩ := h
 have hd : ∀ b, b ∈ fps.flatten -> b ∉ fq := fun b hb hm => by have := h.lo b hb; have := hf b hm; omega
 refine ⟨rows, fps, ?_, h.len, h.lenf, fun i h0 h1 h2 => F.chg (h.els i h0 h1 h2) hc fun b hb => hd b (List.mem_flatten.2 ⟨_, List.getElem_mem h2, hb⟩), h.lo, h.once, h.free.chg (h.lt F) hc hd, h.apart⟩
 rcases h.own.2 with ⟨q, h0⟩ | ⟨g, cap, cur, q, hg, r⟩
 · exact ⟨h.own.1, .inl ⟨q, h0⟩⟩
 · have hgl : g < w.heap.size := by
    rcases Nat.lt_or_ge g w.heap.size with hh | hh
    · exact hh
    · have := r.1; simp [Array.getElem?_eq_none hh] at this
   exact ⟨h.own.1, .inr ⟨g, cap, cur, q, hg, (hc.block g hgl (fun hm => by have := hf g hm; omega)).trans r.1, r.2⟩⟩
theorem OwnE.lower {base' : Nat} (h : OwnE K R e base w v l) (hb : base' <= base) : OwnE K R e base' w v l := by
 obtain ⟨rows, fps, h⟩ := h
 exact ⟨rows, fps, h.own.lower hb, h.len, h.lenf, h.els, fun b hm => Nat.le_trans hb (h.lo b hm), h.once, h.free, h.apart⟩
theorem OwnE.slice (h : OwnE K R e base w v l) : ∃ (a : Option Addr) (n cap : Nat), v = .slice a n cap ∧ l.length = n ∧ n <= cap ∧ cap <= maxLen := by
 obtain ⟨rows, fps, h⟩ := h
 obtain ⟨a, n, cap, e, h1, h2, h3⟩ := h.own.slice
 exact ⟨a, n, cap, e, h.len.symm.trans h1, h2, h3⟩
theorem OwnE.reads (F : Fits K R) (h : OwnE K R e base w v l) : ∃ fp, SlR K R w l v fp ∧ (∀ b, b ∈ fp -> base <= b) ∧ fp.Nodup ∧ Free fp w := by
 obtain ⟨rows, fps, h⟩ := h
 have hlen := h.len
 have hlenf := h.lenf
 have ho := h.own
 rcases h.own.2 with ⟨q, h0⟩ | ⟨g, cap, cur, q, hg, hcur, hnc, hcm, r⟩
 · obtain rfl : l = [] := List.eq_nil_of_length_eq_zero (by omega)
   exact ⟨[], ⟨none, 0, 0, q, rfl, Nat.le_refl _, by simp, .inl ⟨rfl, rfl⟩⟩, by simp, List.nodup_nil, fun b hb => by simp at hb⟩
 · have hgl : g < w.heap.size := by
    rcases Nat.lt_or_ge g w.heap.size with hh | hh
    · exact hh
    · simp [Array.getElem?_eq_none hh] at hcur
   have hgn := h.apart g (by rw [q]; rfl)
   rw [q] at ho
   refine ⟨g :: fps.flatten, ⟨_, rows.length, cap, q, hlen.symm, hnc, hcm, .inr ⟨g, 0, fps, rfl, hgl, rfl, hlenf, fun i hi hi' => ?_⟩⟩, fun b hb => ?_, List.nodup_cons.2 ⟨hgn, h.once⟩, fun b hb o => ?_⟩
   · refine ⟨rows[i].1, h.els i hi (by omega) hi', fun j hj => ?_⟩
     rw [Nat.zero_add]
     exact OwnR.cell cellsK_len ho (by omega) hj
   · rcases List.mem_cons.1 hb with rfl | hb
     · exact hg
     · exact h.lo b hb
   · rcases List.mem_cons.1 hb with rfl | hb
     · exact OwnR.frozen ho o
     · exact h.free b hb o
theorem OwnE.sl (F : Fits K R) (h : OwnE K R e base w v l) : ∃ fp, SlR K R w l v fp := by
 obtain ⟨fp, h, _⟩ := h.reads F
 exact ⟨fp, h⟩
theorem oneCells_flat {cs : List Value} {hcs : cs.length = K} (h : ∀ u ∈ cs, u.oneCell' = true) : ∀ u ∈ [(⟨cs, hcs⟩ : CellsK K)].flatMap cellsK, u.oneCell' = true := by
 intro u hu
 simp only [List.flatMap_cons, List.flatMap_nil, List.append_nil] at hu
 exact h u hu
theorem New.later {f : List Nat} {W w w' : World} (h : New f W w) (hl : ∀ b, b ∈ f -> b < w.heap.size) (hc : Chg [] w w') : New f W w' := ⟨h.lo, h.once, h.free.chg hl hc (fun _ _ => by simp)⟩
end Go.Proofs.YtaeiddoccfaheaaGreat
namespace Go.Proofs.YtaeiddoccfaheaaGreat
open Go.RowKit Go.WideShapes
abbrev Tr (α : Type) (K : Nat) := α × CellsK K × List Nat
abbrev flatR {α : Type} (c : α -> List Value) : Pr α := fun _ x cs fp => cs = c x ∧ fp = []
variable {α : Type} {K : Nat} {R : Pr α} {w w' : World} {v : Value} {l : List α}
end Go.Proofs.YtaeiddoccfaheaaGreat
