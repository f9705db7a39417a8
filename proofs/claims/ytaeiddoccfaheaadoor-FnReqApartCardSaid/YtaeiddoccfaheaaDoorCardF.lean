/-
  What a card's list gives: the library's table, and the words.
-/
import Derived.Test.YtaeiddoccfaheaaDoorRspText
import Derived.Test.YtaeiddoccfaheaaDoorRows
import Derived.SliceStrings
import Derived.LaidHandle
import Derived.LaidSub
import Derived.LaidMore
import Derived.Lib.LaidTab
import Derived.Stop.Joined
namespace Go.Proofs.YtaeiddoccfaheaaDoor
set_option linter.unusedVariables false
set_option linter.unusedSimpArgs false
open Go.ChangeShapes Go.WideShapes Go.ChangeAt Go.RowKit

theorem pow_of {laid : List (String × DataW Unit)} (hl : laid.filter (fun x => x.1 == "internal/strconv.uint64pow10") = [("internal/strconv.uint64pow10", Lib.tabData .u64 Lib.pow10Tab)]) {W : World} (h : laidMetH Tryd.prog laid W) : Pow W := by
  have h1 := h.filter (fun x => x.1 == "internal/strconv.uint64pow10")
  rw [hl, MakeChecks.laidMetH_plain _ _ _ (by kernel_rfl)] at h1
  exact Lib.tabIs_of_head (g := 2) (n := 20) (by kernel_rfl) (by kernel_rfl) Tryd.underlying86 Tryd.underlying80 (by kernel_rfl) (by kernel_rfl) h1

/-- words, as data -/
def wordsD (ls : List (List UInt8)) : DataW Unit := .slice (ls.map fun l => .lit (.string l)) []
theorem strs_inj {ss : List ByteArray} {ls : List (List UInt8)} (h : (strs ss : List (DataW Unit)) = ls.map fun l => .lit (.string l)) : ss = ls.map fun l => (⟨l.toArray⟩ : ByteArray) := by
  induction ss generalizing ls with
  | nil => cases ls with
    | nil => rfl
    | cons l ls => simp [strs] at h
  | cons s ss ih => cases ls with
    | nil => simp [strs] at h
    | cons l ls =>
      simp only [strs, List.map_cons, List.cons.injEq, DataW.lit.injEq, Lit.string.injEq] at h
      have h2 := ih (by simpa [strs] using h.2)
      rw [List.map_cons, h2, ← h.1]
theorem words_of {name : String} {g : Nat} {ls : List (List UInt8)} {laid : List (String × DataW Unit)} (hne : ls ≠ []) (hg : Tryd.prog.globalNamed name = some g) (ht : (Tryd.prog.globals[g]?).map (·.type) = some 48) (hl : laid.filter (fun x => x.1 == name) = [(name, wordsD ls)])
    {W : World} (h : laidMetH Tryd.prog laid W) : Words g ls W := by
  have h1 := h.filter (fun x => x.1 == name)
  rw [hl, MakeChecks.laidMetH_plain _ _ _ (by rfl)] at h1
  obtain ⟨ps, ⟨g', t', cs, fuel, p, q, hg', ht', hv, hd, _, _⟩, _⟩ := h1
  obtain rfl := Option.some.inj (hg.symm.trans hg')
  obtain rfl := Option.some.inj (ht.symm.trans ht')
  rcases open_strings Tryd.underlying48 Tryd.underlying9 (by kernel_rfl) hd with ⟨_, hx⟩ | ⟨a, len, cap, ss, hcs, _, hlc, _, hlen, hx, hcell, _⟩
  · simp [wordsD] at hx
  · simp only [wordsD, Prod.mk.injEq, DataW.slice.injEq] at hx
    have e1 := strs_inj hx.1.1.symm
    have hsl : (ss.take len).length = ls.length := by rw [e1]; simp
    have hpos : 0 < ls.length := List.length_pos_iff.2 hne
    have hll : len = ls.length := by
      rw [List.length_take] at hsl
      split at hlen <;> omega
    have hls : len ≤ ss.length := by split at hlen <;> omega
    have at_ : ∀ j (hj : j < ls.length), W.cell? (a.add j) = some (.string ⟨ls[j].toArray⟩) := fun j hj => by
      have h2 := hcell j (by omega)
      have h3 : ss.getD j ByteArray.empty = ⟨ls[j].toArray⟩ := by
        have h4 : (ss.take len)[j]? = some ⟨ls[j].toArray⟩ := by rw [e1]; simp [hj]
        rw [List.getElem?_take] at h4
        have h5 : ss[j]? = some ⟨ls[j].toArray⟩ := by
          rw [if_pos (by omega)] at h4
          exact h4
        simp [List.getD, h5]
      rw [h2, h3]
    obtain ⟨b, off, spot⟩ := a
    have hspot : spot = none := by
      have := at_ 0 hpos
      simpa [Addr.add] using World.cell?_spot this
    subst hspot
    have hc0 := World.var?_cell hg hv 0
    have e2 : cs = #[.slice (some ⟨b, off, none⟩) len cap] := by
      cases cs
      simpa using hcs
    rw [e2] at hc0
    refine ⟨b, off, cap, ?_, fun j hj => ?_⟩
    · rw [hc0, ← hll]
      rfl
    · have := at_ j hj
      rwa [add_plain] at this

end Go.Proofs.YtaeiddoccfaheaaDoor
