/-
  Slices of flat elements lie in one block, which their value names.
-/
import Derived.Test.YtmmojgopeaelcaaBase
namespace Go.Proofs.Ytmmojgopeaelcaa
set_option linter.unusedVariables false
set_option linter.unusedSimpArgs false
open Go.RowKit

/-- the block that a slice's value names -/
def blkOf : Value → List Nat
  | .slice (some a) _ _ => [a.block]
  | _ => []

theorem SlR.one {α : Type} {k : Nat} {R : Pr α} (hR : ∀ {w x cs f}, R w x cs f → f = []) {w : World} {l : List α} {v : Value} {fp : List Nat} (h : SlR k R w l v fp) (hl : l ≠ []) :
    ∃ (b off n cap : Nat), v = .slice (some ⟨b, off, none⟩) n cap ∧ fp = [b] := by
  obtain ⟨a, n, cap, rfl, hn, hcap, hcm, ⟨rfl, rfl⟩ | ⟨b, off, fps, rfl, hb, rfl, hf, hc⟩⟩ := h
  · exact absurd rfl hl
  · refine ⟨b, off, n, cap, rfl, ?_⟩
    have : fps.flatten = [] := by
      rw [List.flatten_eq_nil_iff]
      intro f hfm
      obtain ⟨i, hi, rfl⟩ := List.mem_iff_getElem.1 hfm
      obtain ⟨cs, h1, _⟩ := hc i (by omega) hi
      exact hR h1
    rw [this]

/-- it reads so, in one new block behind the block of the result -/
structure SepR {α : Type} (k : Nat) (R : Pr α) (w : World) (l : List α) (v : Value) (w' : World) : Prop where
  reads : SlR k R w' l v (blkOf v)
  lo : ∀ b, b ∈ blkOf v → w.heap.size < b
  free : Free (blkOf v) w'

theorem SepR.of {α : Type} {k : Nat} {R : Pr α} (hR : ∀ {w x cs f}, R w x cs f → f = []) {w : World} {l : List α} {v : Value} {w' : World} {fp : List Nat} (h : SlR k R w' l v fp) (hl : l ≠ []) (lo : ∀ b, b ∈ fp → w.heap.size < b) (hf : Free fp w') : SepR k R w l v w' ∧ blkOf v = fp := by
  obtain ⟨b, off, n, cap, rfl, rfl⟩ := h.one hR hl
  exact ⟨⟨h, lo, hf⟩, rfl⟩
theorem SepR.form {α : Type} {k : Nat} {R : Pr α} {w : World} {l : List α} {v : Value} {w' : World} (h : SepR k R w l v w') : ∃ (a : Option Addr) (n c : Nat), v = .slice a n c := h.reads.form
theorem SepR.chg {α : Type} {k : Nat} {R : Pr α} (F : Fits k R) {w : World} {l : List α} {v : Value} {w1 w2 : World} (h : SepR k R w l v w1) (hc : Chg [w.heap.size] w1 w2) : SepR k R w l v w2 := by
  have hd : ∀ b, b ∈ blkOf v → b ∉ [w.heap.size] := fun b hb hb' => by have := h.lo b hb; simp at hb'; omega
  exact ⟨h.reads.chg F hc hd, h.lo, h.free.chg (h.reads.lt F) hc hd⟩
theorem SepR.lt {α : Type} {k : Nat} {R : Pr α} (F : Fits k R) {w : World} {l : List α} {v : Value} {w1 : World} (h : SepR k R w l v w1) : ∀ b, b ∈ blkOf v → b < w1.heap.size := h.reads.lt F
theorem boolR_flat {w : World} {x : Bool} {cs : List Value} {f : List Nat} (h : boolR w x cs f) : f = [] := h.2
theorem intR_flat {w : World} {x : Int} {cs : List Value} {f : List Nat} (h : intR w x cs f) : f = [] := h.2

/-- a row of flat elements that has just been laid -/
theorem lit_one {α : Type} {R : Pr α} {c : α → Value} (hR : ∀ w x, R w x [c x] []) (w : World) (l : List α) (n : Nat) (hn : l.length = n) (hl : 0 < n) (hm : n ≤ maxLen) (A : Array Value) (hA : A.toList = l.map c) (T : TypeId) :
    SlR 1 R (w.alloc (.cells A T)) l (.slice (some ⟨w.heap.size, 0, none⟩) n n) [w.heap.size] ∧ Free [w.heap.size] (w.alloc (.cells A T)) := by
  refine ⟨⟨_, n, n, rfl, hn, Nat.le_refl _, hm, .inr ⟨_, 0, List.replicate n [], rfl, by simp, by simp, by simp [hn], fun i h h' => ⟨[c l[i]], by rw [List.getElem_replicate]; exact hR _ _, fun j hj => ?_⟩⟩⟩, fun b hb o => ?_⟩
  · obtain rfl : j = 0 := by simpa using hj
    rw [Nat.zero_add, Nat.mul_one, Nat.add_zero]
    refine alloc1_new w A T i ?_
    rw [← Array.getElem?_toList, hA]
    simp [h]
  · obtain rfl : b = w.heap.size := by simpa using hb
    exact World.frozen?_alloc_at _ _ _ _ rfl

end Go.Proofs.Ytmmojgopeaelcaa
