/-
 Texts of this claim laid together: TC.
-/
import Derived.Test.YtaeiddoccfaheaaGreatPk32
import Derived.Test.YtaeiddoccfaheaaGreatPk37
import Derived.Test.YtaeiddoccfaheaaGreatPk41
import Derived.Test.YtaeiddoccfaheaaGreatPk03
set_option linter.unusedVariables false
set_option linter.unusedSimpArgs false
namespace Go.Proofs.YtaeiddoccfaheaaGreat
open Go.RowKit Go.ChangeShapes Go.WideShapes
set_option maxRecDepth 100000 in
set_option maxHeartbeats 3200000 in
theorem l2Copy_b (ms : List Int) (v : Value) (fp : List Nat) (hs : ms.length <= 1000) (w : World) (g : SlR 1 intR w ms v fp) :
 Calls Tryz.prog 89 #[.agg #[v]] w fun e w' => ∃ v' fp', e = .returned (.agg #[v']) ∧ SlR 1 intR w' ms v' fp' ∧ New fp' w w' ∧ Below w.heap.size w w' := by
 obtain ⟨a, n, c, rfl⟩ := g.form
 obtain ⟨i0, hi, hz0, hz1, hz2⟩ := info_parts infoInt
 have hn : ms.length = n := by
  have h' := g
  obtain ⟨_, _, _, e, h2, _⟩ := h'
  cases e; exact h2
 obtain ⟨w0, hw0⟩ : ∃ z, z = (w.alloc (.cells #[.slice a n c] 31)).alloc (.cells #[.slice none 0 0] 31) := ⟨_, rfl⟩
 have b0 : Below w.heap.size w w0 := by rw [hw0]; exact (below_alloc _ _).trans ((below_alloc _ _).mono (by simp))
 have c0 : w0.cell? ⟨w.heap.size, 0, none⟩ = some (.slice a n c) := by rw [hw0]; exact alloc2_old _ _ _ _ _ 0 rfl
 have r0 : RoomAt (w.heap.size + 1) 1 w0 := by rw [hw0]; exact room_alloc (by simp) (by simp)
 have G := Lib.hid (SlR.below intR_fits g b0)
 have B := Lib.hid b0
 have R := Lib.hid r0
 clear g b0 r0
 go_enter Tryz.func89, Tryz.ntmps89
 go_upto_region 1 with fail
 rw [<- hw0]
 clear hw0
 have ba := below_alloc w0 (.cells #[] 3)
 have c0 := keep_cell ba c0
 have GG : SlR 1 (flatR IntC) (w0.alloc (.cells #[] 3)) ms (.slice a n c) fp := SlR.below intR_fits G.out ba
 have OL : OwnR 1 IntC 3 w0.heap.size (w0.alloc (.cells #[] 3)) (.slice (some ⟨w0.heap.size, 0, none⟩) 0 0) [] := OwnR.lit w0 #[] 0 [] IntC_len rfl rfl (Nat.le_refl _) (Nat.zero_le _)
 have HGG := Lib.hid GG
 have HOL := Lib.hid OL
 have hmx : n <= 2000000 := by omega
 have hsz := Lib.hid (show w0.heap.size <= (w0.alloc (.cells #[] 3)).heap.size by simp)
 have R2 := Lib.hid (R.out.below ba)
 have B2 := Lib.hid (B.out.trans (ba.mono B.out.size))
 clear GG OL ba
 go_wp2_with (at_builtin; refine wpList_append_lit (K := 1) (c := IntC) (news := ms) rfl _ _ 23 3 i0 (.int .i64 0) 8 IntC_len rfl Tryz.underlying23 hi hz0 hz1 hz2 rfl (by decide) (by decide) rfl rfl HOL.out HGG.out hsz.out hmx ?_; intro v' w2 ho hb; obtain ⟨va, vn, vc, rfl, _⟩ := OwnR.slice ho; obtain ⟨_, hr, f⟩ := R2.out.below hb; obtain ⟨y0, p0⟩ := hr 0 (by omega); have f0 := f 0; clear hr; have HO := Lib.hid ho; have HB := Lib.hid (B2.out.trans (hb.mono B2.out.size)); clear f ho hb HGG HOL)
 have hc : Chg [w.heap.size + 1] w2 (w2.setCell ⟨w.heap.size + 1, 0, none⟩ (.slice va vn vc)) := store_chg _
 obtain ⟨fp', g1, g2, g3, g4⟩ := intRow_reads HO.out
 have hz := B.out.size
 have hz2 := R.out.1
 have hd : ∀ b, b ∈ fp' -> b ∉ [w.heap.size + 1] := fun b hb hm => by have := g2 b hb; simp at hm; omega
 exact bodyPost_ret (v := .agg #[.slice va vn vc]) (by simp [results, Tryz.results89, go_sem, setSame1 p0]) rfl ⟨_, fp', rfl, g1.chg intR_fits hc hd, ⟨fun b hb => by have := g2 b hb; omega, g3, g4.chg (g1.lt intR_fits) hc hd⟩, ((HB.out.chg [w.heap.size + 1]).trans' hc).home (fun b hb => by simp at hb; omega)⟩
def FNw {α : Type} (B : Nat) (k : Nat) (R : Pr α) (l : List α) : Fact := fun v w => ∃ fp, SlR k R w l v fp ∧ ∀ b, b ∈ fp -> B <= b
theorem FNw.form {α : Type} {k B : Nat} {R : Pr α} {l : List α} {v : Value} {w : World} (h : FNw B k R l v w) : ∃ a n c, v = .slice a n c := by
 obtain ⟨fp, h, _⟩ := h
 exact h.form
end Go.Proofs.YtaeiddoccfaheaaGreat
