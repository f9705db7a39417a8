/-
 Texts of this claim laid together: Row.
-/
import Derived.Test.YtaeiddoccfaheaaGreatPk04
import Derived.Test.YtaeiddoccfaheaaGreatPk07
import Derived.Test.YtaeiddoccfaheaaGreatPk09
set_option linter.unusedVariables false
set_option linter.unusedSimpArgs false
namespace Go.Proofs.YtaeiddoccfaheaaGreat
open Go.RowKit
theorem flat_len {α : Type} {K : Nat} {c : α -> List Value} (hk : ∀ x, (c x).length = K) (l : List α) : (l.flatMap c).length = l.length * K := by
 induction l with
 | nil => simp
 | cons x l ih => rw [List.flatMap_cons, List.length_append, ih, hk, List.length_cons, Nat.succ_mul, Nat.add_comm]
theorem flat_at {α : Type} {K : Nat} {c : α -> List Value} (hk : ∀ x, (c x).length = K) (l : List α) : ∀ i (hi : i < l.length) j (hj : j < (c l[i]).length), (l.flatMap c)[i * K + j]? = some (c l[i])[j] := by
 induction l with
 | nil => intro i hi; simp at hi
 | cons x l ih =>
  intro i hi j hj
  rw [List.flatMap_cons]
  cases i with
  | zero =>
   simp only [List.getElem_cons_zero] at hj ⊢
   rw [Nat.zero_mul, Nat.zero_add, List.getElem?_append_left (by simpa using hj)]
   exact List.getElem?_eq_getElem _
  | succ i =>
   simp only [List.getElem_cons_succ] at hj ⊢
   rw [List.getElem?_append_right (by rw [hk, Nat.succ_mul]; omega), hk, Nat.succ_mul, show i * K + K + j - K = i * K + j by omega]
   exact ih i (by simpa using hi) j hj
theorem SlR.clip {α : Type} {k : Nat} {R : Pr α} {w : World} {l : List α} {a : Option Addr} {n c : Nat} {fp : List Nat} (h : SlR k R w l (.slice a n c) fp) : SlR k R w l (.slice a n n) fp := by
 obtain ⟨a', n', cap, e, hn, hcap, hcm, hr⟩ := h
 simp only [Value.slice.injEq] at e
 obtain ⟨rfl, rfl, rfl⟩ := e
 exact ⟨a, n, n, rfl, hn, Nat.le_refl _, by omega, hr⟩
theorem Chg.under {fp : List Nat} {a b : World} {B : Nat} (h : Chg fp a b) (hB : B <= a.heap.size) (hl : ∀ k, k ∈ fp -> B <= k) : Below B a b :=
 ⟨h.os, h.tape, h.output, h.size, fun k hk => h.block k (by omega) (fun hm => by have := hl k hm; omega)⟩
theorem putCells_out {g : Nat} (cs : List Value) : ∀ (w : World) (i q : Nat), (q < i ∨ i + cs.length <= q) -> (putCells g w i cs).cell? ⟨g, q, none⟩ = w.cell? ⟨g, q, none⟩ := by
 induction cs with
 | nil => intro w i q _; rfl
 | cons c cs ih =>
  intro w i q h
  simp only [List.length_cons] at h
  rw [putCells, ih _ _ _ (by omega)]
  exact World.cell?_setCell_other _ _ _ _ (fun e => by injection e; omega)
theorem putCells_in {g : Nat} (cs : List Value) : ∀ (w : World) (i j : Nat) (hj : j < cs.length), (∀ q, q < cs.length -> ∃ x, w.cell? ⟨g, i + q, none⟩ = some x) -> (putCells g w i cs).cell? ⟨g, i + j, none⟩ = some cs[j] := by
 induction cs with
 | nil => intro w i j hj _; simp at hj
 | cons c cs ih =>
  intro w i j hj h
  simp only [List.length_cons] at hj h
  cases j with
  | zero =>
   rw [putCells, putCells_out _ _ _ _ (.inl (by omega))]
   obtain ⟨x, hx⟩ := h 0 (by omega)
   exact World.cell?_setCell_same _ _ _ hx
  | succ j =>
   rw [putCells, show i + (j + 1) = i + 1 + j by omega]
   refine ih _ _ _ (by omega) fun q hq => ?_
   obtain ⟨x, hx⟩ := h (q + 1) (by omega)
   refine ⟨x, (World.cell?_setCell_other _ _ _ _ (fun e => by injection e; omega)).trans ?_⟩
   rw [show i + 1 + q = i + (q + 1) by omega]; exact hx
theorem putCells_free {g : Nat} {fp : List Nat} (cs : List Value) : ∀ (w : World) (i : Nat), Free fp w -> Free fp (putCells g w i cs) := by
 induction cs with
 | nil => intro w i h; exact h
 | cons c cs ih => intro w i h; exact ih _ _ (h.setCell _ _)
theorem putCells_chg {g : Nat} {fp : List Nat} (hg : g ∈ fp) (cs : List Value) (w : World) (i : Nat) : Chg fp w (putCells g w i cs) := by
 induction cs generalizing w i with
 | nil => exact Chg.refl _ _
 | cons c cs ih =>
  have h1 : Chg fp w (w.setCell ⟨g, i, none⟩ c) := ⟨rfl, rfl, rfl, by simp, fun k _ hk => Below.heap_setCell _ _ _ _ (fun e => hk (by rw [e]; exact hg))⟩
  exact h1.trans' (ih _ _)
theorem SlR.put {α : Type} {K : Nat} {c : α -> List Value} (hk : ∀ x, (c x).length = K) {w : World} {l : List α} {a : Option Addr} {n cap b off : Nat} {fp : List Nat} (h : SlR K (fun _ x cs fp => cs = c x ∧ fp = []) w l (.slice a n cap) fp) (ha : a = some ⟨b, off, none⟩) {i : Nat} (hi : i < n) (x : α) :
 SlR K (fun _ x cs fp => cs = c x ∧ fp = []) (putCells b w (off + i * K) (c x)) (l.set i x) (.slice a n cap) fp ∧ Chg fp w (putCells b w (off + i * K) (c x)) ∧ b ∈ fp := by
 obtain ⟨a', n', cap', e, hn, hcap, hcm, ⟨rfl, rfl⟩ | ⟨b', off', fps, rfl, hb, rfl, hf, hc⟩⟩ := h
 · simp only [Value.slice.injEq] at e
   obtain ⟨_, rfl, _⟩ := e
   simp at hn
   omega
 · simp only [Value.slice.injEq] at e
   obtain ⟨e1, rfl, rfl⟩ := e
   subst ha
   simp only [Option.some.injEq, Addr.mk.injEq, and_true] at e1
   obtain ⟨rfl, rfl⟩ := e1
   refine ⟨⟨_, n, cap, rfl, by simpa using hn, hcap, hcm, .inr ⟨b, off, fps, rfl, by rw [putCells_size]; exact hb, rfl, by simpa using hf, fun j h h' => ?_⟩⟩, putCells_chg (List.mem_cons_self ..) _ _ _, List.mem_cons_self ..⟩
   have hj : j < l.length := by simpa using h
   obtain ⟨cs, ⟨rfl, hfj⟩, hcell⟩ := hc j hj h'
   refine ⟨c ((l.set i x)[j]), ⟨rfl, hfj⟩, fun q hq => ?_⟩
   have hqK : q < K := by rw [hk] at hq; exact hq
   by_cases hji : i = j
   · subst hji
     have := putCells_in (g := b) (c x) w (off + i * K) q (by rw [hk]; exact hqK) (fun q' hq' => ⟨_, hcell q' (by rw [hk] at hq' ⊢; exact hq')⟩)
     rw [this]
     simp
   · rw [putCells_out _ _ _ _ (by
      rw [hk]
      rcases Nat.lt_or_gt_of_ne hji with h1 | h1
      · right; have : (i + 1) * K <= j * K := Nat.mul_le_mul_right K (by omega); rw [Nat.succ_mul] at this; omega
      · left; have : (j + 1) * K <= i * K := Nat.mul_le_mul_right K (by omega); rw [Nat.succ_mul] at this; omega)]
     rw [hcell q (by rw [hk]; exact hqK)]
     simp [hji]
theorem nodup_disj {p q : List Nat} (h : (p ++ q).Nodup) : ∀ b, b ∈ p -> b ∉ q := fun b hb hb' => (List.nodup_append.1 h).2.2 b hb b hb' rfl
end Go.Proofs.YtaeiddoccfaheaaGreat
