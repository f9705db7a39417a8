/-
  A slice's elements with the cells in which they lie: a slice read as a row of flat elements, and back. No program in sight.
-/
import Derived.Test.YtmcjklicepaiaaaOwnP
namespace Go.Proofs.Ytmcjklicepaiaaa
set_option linter.unusedVariables false
set_option linter.unusedSimpArgs false
open Go.RowKit Go.WideShapes

/-- an element, its cells, and the blocks of what it holds -/
abbrev Tr (α : Type) (K : Nat) := α × CellsK K × List Nat
def trC {α : Type} {K : Nat} (p : Tr α K) : List Value := p.2.1.1
theorem trC_len {α : Type} {K : Nat} (p : Tr α K) : (trC p).length = K := p.2.1.2
/-- flat, by cells -/
abbrev flatR {α : Type} (c : α → List Value) : Pr α := fun _ x cs fp => cs = c x ∧ fp = []
theorem flatR_fits {α : Type} {K : Nat} {c : α → List Value} (hk : ∀ x, (c x).length = K) : Fits K (flatR c) := ⟨fun h => by rw [h.1, hk], fun h b hb => by rw [h.2] at hb; simp at hb, fun h _ _ => h⟩

variable {α : Type} {K : Nat} {R : Pr α} {w w' : World} {v : Value} {l : List α}

theorem SlR.tr (F : Fits K R) {fp : List Nat} (h : SlR K R w l v fp) : ∃ (L : List (Tr α K)) (fq : List Nat), L.map (·.1) = l ∧ SlR K (flatR trC) w L v fq ∧ (∀ p, p ∈ L → R w p.1 p.2.1.1 p.2.2 ∧ ∀ b, b ∈ p.2.2 → b ∈ fp) ∧ ∀ b, b ∈ fq → b ∈ fp := by
  obtain ⟨a, n, cap, rfl, hn, hcap, hcm, ⟨rfl, rfl⟩ | ⟨b, off, fps, rfl, hb, rfl, hf, hc⟩⟩ := h
  · exact ⟨[], [], rfl, ⟨a, n, cap, rfl, hn, hcap, hcm, .inl ⟨rfl, rfl⟩⟩, fun p hp => by simp at hp, fun b hb => by simp at hb⟩
  · replace hn : l.length = n := hn
    have main : ∀ q, q ≤ l.length → ∃ L : List (Tr α K), L.length = q ∧ L.map (·.1) = l.take q ∧ ∀ i (h : i < L.length) (h1 : i < fps.length), L[i].2.2 = fps[i] ∧ R w L[i].1 L[i].2.1.1 L[i].2.2 ∧ ∀ j (hj : j < (trC L[i]).length), w.cell? ⟨b, off + i * K + j, none⟩ = some (trC L[i])[j] := by
      intro q
      induction q with
      | zero => exact fun _ => ⟨[], rfl, by simp, fun i h => absurd h (by simp)⟩
      | succ q ih =>
        intro hq
        obtain ⟨L, h1, h2, h3⟩ := ih (by omega)
        obtain ⟨cs, hR, hcell⟩ := hc q (by omega) (by omega)
        refine ⟨L ++ [(l[q], ⟨cs, F.len hR⟩, fps[q])], by simp [h1], by rw [List.map_append, h2, List.take_succ_eq_append_getElem (by omega)]; rfl, fun i h h' => ?_⟩
        by_cases hiq : i < q
        · simp only [List.getElem_append_left (by omega : i < L.length)]
          exact h3 i (by omega) h'
        · obtain rfl : i = L.length := by simp [h1] at h; omega
          subst h1
          simp only [List.getElem_append_right (Nat.le_refl _), Nat.sub_self, List.getElem_cons_zero]
          exact ⟨trivial, hR, hcell⟩
    obtain ⟨L, h1, h2, h3⟩ := main l.length (Nat.le_refl _)
    rw [List.take_of_length_le (Nat.le_refl _)] at h2
    refine ⟨L, b :: (List.replicate L.length []).flatten, h2, ⟨_, n, cap, rfl, by omega, hcap, hcm, .inr ⟨b, off, List.replicate L.length [], rfl, hb, rfl, by simp, fun i hi hi' => ⟨trC L[i], ⟨rfl, by simp⟩, (h3 i hi (by omega)).2.2⟩⟩⟩, fun p hp => ?_, fun c hc => ?_⟩
    · obtain ⟨i, hi, rfl⟩ := List.mem_iff_getElem.1 hp
      obtain ⟨e, hR, _⟩ := h3 i hi (by omega)
      refine ⟨hR, fun c hcm => ?_⟩
      rw [e] at hcm
      exact List.mem_cons_of_mem _ (List.mem_flatten.2 ⟨_, List.getElem_mem _, hcm⟩)
    · rcases List.mem_cons.1 hc with rfl | hc
      · exact List.mem_cons_self ..
      · obtain ⟨f, hf1, hf2⟩ := List.mem_flatten.1 hc
        rw [List.eq_of_mem_replicate hf1] at hf2
        simp at hf2

theorem SlR.untr {L : List (Tr α K)} {fq : List Nat} (h : SlR K (flatR trC) w L v fq) (hR : ∀ p, p ∈ L → R w p.1 p.2.1.1 p.2.2) : SlR K R w (L.map (·.1)) v (fq ++ (L.map (·.2.2)).flatten) := by
  obtain ⟨a, n, cap, rfl, hn, hcap, hcm, ⟨rfl, rfl⟩ | ⟨b, off, fps, rfl, hb, rfl, hf, hc⟩⟩ := h
  · exact ⟨a, n, cap, rfl, hn, hcap, hcm, .inl ⟨rfl, rfl⟩⟩
  · have h0 : fps.flatten = [] := by
      rw [List.flatten_eq_nil_iff]
      intro f hf1
      obtain ⟨i, hi, rfl⟩ := List.mem_iff_getElem.1 hf1
      obtain ⟨cs, ⟨_, e⟩, _⟩ := hc i (by omega) hi
      exact e
    refine ⟨_, n, cap, rfl, by simpa using hn, hcap, hcm, .inr ⟨b, off, L.map (·.2.2), rfl, hb, by rw [h0]; rfl, by simp, fun i hi hi' => ?_⟩⟩
    have hiL : i < L.length := by simpa using hi
    obtain ⟨cs, ⟨rfl, _⟩, hcell⟩ := hc i hiL (by omega)
    refine ⟨trC L[i], ?_, hcell⟩
    have := hR L[i] (List.getElem_mem hiL)
    simpa [trC] using this

/-- One cell of a flat element written anew. -/
theorem SlR.put1 {c : α → List Value} (hk : ∀ x, (c x).length = K) {a : Option Addr} {n cap b off : Nat} {fp : List Nat} (h : SlR K (flatR c) w l (.slice a n cap) fp) (ha : a = some ⟨b, off, none⟩) {i : Nat} (hi : i < l.length) {j : Nat} (hj : j < K) (u : Value) (x : α) (hx : c x = (c l[i]).set j u) :
    SlR K (flatR c) (w.setCell ⟨b, off + i * K + j, none⟩ u) (l.set i x) (.slice a n cap) fp ∧ Chg [b] w (w.setCell ⟨b, off + i * K + j, none⟩ u) ∧ b ∈ fp := by
  obtain ⟨a', n', cap', e, hn, hcap, hcm, ⟨rfl, rfl⟩ | ⟨b', off', fps, rfl, hb, rfl, hf, hc⟩⟩ := h
  · simp at hi
  · simp only [Value.slice.injEq] at e
    obtain ⟨e1, rfl, rfl⟩ := e
    subst ha
    simp only [Option.some.injEq, Addr.mk.injEq, and_true] at e1
    obtain ⟨rfl, rfl⟩ := e1
    refine ⟨⟨_, n, cap, rfl, by simpa using hn, hcap, hcm, .inr ⟨b, off, fps, rfl, by simpa using hb, rfl, by simpa using hf, fun q h h' => ?_⟩⟩, store_chg _, List.mem_cons_self ..⟩
    have hq : q < l.length := by simpa using h
    obtain ⟨cs, ⟨rfl, hfj⟩, hcell⟩ := hc q hq h'
    refine ⟨c ((l.set i x)[q]), ⟨rfl, hfj⟩, fun t ht => ?_⟩
    have htK : t < K := by rw [hk] at ht; exact ht
    by_cases hqi : i = q
    · subst hqi
      simp only [List.getElem_set_self, hx]
      by_cases htj : j = t
      · subst htj
        have := hcell j (by rw [hk]; exact hj)
        rw [World.cell?_setCell_same _ _ _ this]
        simp
      · rw [World.cell?_setCell_other _ _ _ _ (fun e => htj (by injection e; omega)), hcell t (by rw [hk]; exact htK)]
        simp [htj]
    · rw [World.cell?_setCell_other _ _ _ _ (fun e => by
        injection e with _ e
        rcases Nat.lt_or_gt_of_ne hqi with h1 | h1
        · have : (i + 1) * K ≤ q * K := Nat.mul_le_mul_right K (by omega); rw [Nat.succ_mul] at this; omega
        · have : (q + 1) * K ≤ i * K := Nat.mul_le_mul_right K (by omega); rw [Nat.succ_mul] at this; omega), hcell t (by rw [hk]; exact htK)]
      simp [hqi]

/-- a slice of flat elements opened -/
theorem SlR.openF {c : α → List Value} {fp : List Nat} (h : SlR K (flatR c) w l v fp) : ∃ (a : Option Addr) (n cap : Nat), v = .slice a n cap ∧ Hid (l.length = n) ∧ n ≤ cap ∧ n ≤ 9223372036854775807 ∧ cap ≤ maxLen ∧
      ∀ i, i < n → ∃ (_ : i < l.length) (b off : Nat), a = some ⟨b, off, none⟩ ∧ b < w.heap.size ∧ b ∈ fp ∧ ∀ j (hj : j < (c l[i]).length), w.cell? ⟨b, off + i * K + j, none⟩ = some (c l[i])[j] := by
  obtain ⟨a, n, cap, rfl, hn, hcap, hmax, hcm, hc⟩ := SlR.opened h
  refine ⟨a, n, cap, rfl, hn, hcap, hmax, hcm, fun i h => ?_⟩
  obtain ⟨hi, b, off, f, cs, rfl, hb, hbf, _, ⟨rfl, rfl⟩, hcell⟩ := hc i h
  exact ⟨hi, b, off, rfl, hb, hbf, hcell⟩

end Go.Proofs.Ytmcjklicepaiaaa
