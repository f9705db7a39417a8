/-
 Texts of this claim laid together: DBox.
-/
import Derived.Test.YtaeiddoccfaheaaGreatProg
import Derived.Test.YtaeiddoccfaheaaGreatPk04
import Derived.Test.YtaeiddoccfaheaaGreatPk24
import Derived.Test.YtaeiddoccfaheaaGreatPk15
import Derived.Test.YtaeiddoccfaheaaGreatPk08
import Derived.Test.YtaeiddoccfaheaaGreatPk16
import Derived.WalkSmall
set_option linter.unusedVariables false
set_option linter.unusedSimpArgs false
namespace Go.Proofs.YtaeiddoccfaheaaGreat
open Go.RowKit Go.ChangeShapes Go.WideShapes
def IntC (x : Int) : List Value := [.int .i64 x]
theorem IntC_len (x : Int) : (IntC x).length = 1 := rfl
abbrev IntRow := OwnR 1 IntC 3
theorem intRow_reads {w : World} {base : Nat} {v : Value} {l : List Int} (h : IntRow base w v l) : ∃ fp, SlR 1 intR w l v fp ∧ (∀ b, b ∈ fp -> base <= b) ∧ fp.Nodup ∧ Free fp w := OwnR.reads IntC_len h
theorem setSame {w : World} {b j : Nat} {u : Value} (v : Value) (h : w.cell? ⟨b, j, none⟩ = some u) : (w.setCell ⟨b, j, none⟩ v).cell? ⟨b, j, none⟩ = some v := World.cell?_setCell_same _ _ _ h
theorem setOther {w : World} {b i j : Nat} {u : Value} (v : Value) (hij : i ≠ j) (h : w.cell? ⟨b, j, none⟩ = some u) : (w.setCell ⟨b, i, none⟩ v).cell? ⟨b, j, none⟩ = some u := (World.cell?_setCell_other _ _ _ _ (fun e => hij (by injection e))).trans h
structure Low (rb B : Nat) (a b : World) : Prop where
 le : a.heap.size <= B
 chg : Chg [rb] a b
theorem Low.step {rb B : Nat} {a b d : World} {fp : List Nat} (h : Low rb B a b) (c : Chg fp b d) (hf : ∀ k, k ∈ fp -> k = rb ∨ B <= k) : Low rb B a d :=
 ⟨h.le, c.os.trans h.chg.os, c.tape.trans h.chg.tape, c.output.trans h.chg.output, Nat.le_trans h.chg.size c.size, fun k hk hn => (c.block k (Nat.lt_of_lt_of_le hk h.chg.size) (fun hm => by
  have := h.le
  rcases hf k hm with e | e
  · exact hn (by simp [e])
  · omega)).trans (h.chg.block k hk hn)⟩
theorem Low.below {rb B : Nat} {a b d : World} (h : Low rb B a b) (c : Below B b d) : Low rb B a d :=
 ⟨h.le, c.os.trans h.chg.os, c.tape.trans h.chg.tape, c.output.trans h.chg.output, Nat.le_trans h.chg.size c.size, fun k hk hn => (c.block k (Nat.lt_of_lt_of_le hk h.le)).trans (h.chg.block k hk hn)⟩
theorem put3_0 {w : World} {b : Nat} {u : Value} (r s t : Value) (h : w.cell? ⟨b, 0, none⟩ = some u) : (((w.setCell ⟨b, 0, none⟩ r).setCell ⟨b, 1, none⟩ s).setCell ⟨b, 2, none⟩ t).cell? ⟨b, 0, none⟩ = some r := setOther _ (by decide) (setOther _ (by decide) (setSame _ h))
theorem put3_1 {w : World} {b : Nat} {u : Value} (r s t : Value) (h : w.cell? ⟨b, 1, none⟩ = some u) : (((w.setCell ⟨b, 0, none⟩ r).setCell ⟨b, 1, none⟩ s).setCell ⟨b, 2, none⟩ t).cell? ⟨b, 1, none⟩ = some s := setOther _ (by decide) (setSame _ (setOther _ (by decide) h))
theorem put3_2 {w : World} {b : Nat} {u : Value} (r s t : Value) (h : w.cell? ⟨b, 2, none⟩ = some u) : (((w.setCell ⟨b, 0, none⟩ r).setCell ⟨b, 1, none⟩ s).setCell ⟨b, 2, none⟩ t).cell? ⟨b, 2, none⟩ = some t := setSame _ (setOther _ (by decide) (setOther _ (by decide) h))
theorem chg3 (b : Nat) (w : World) (r s t : Value) : Chg [b] w (((w.setCell ⟨b, 0, none⟩ r).setCell ⟨b, 1, none⟩ s).setCell ⟨b, 2, none⟩ t) := ((store_chg _).trans' (store_chg _)).trans' (store_chg _)
end Go.Proofs.YtaeiddoccfaheaaGreat
