/-
  What is drawn into a block of the call's own: words in rows, stores, and what turns meanwhile.
-/
import Derived.Test.YtaeiddoccfaheaaDoorProg
import Derived.Test.YtaeiddoccfaheaaDoorBase
import Derived.Test.YtaeiddoccfaheaaDoorDraw
import Derived.Test.YtaeiddoccfaheaaDoorOwn
import Derived.Test.YtaeiddoccfaheaaDoorInts2
import Derived.Test.YtaeiddoccfaheaaDoorFacts
import Derived.WalkSmall
namespace Go.Proofs.YtaeiddoccfaheaaDoor
set_option linter.unusedVariables false
set_option linter.unusedSimpArgs false
open Go.RowKit Go.ChangeShapes Go.WideShapes

def IntC (x : Int) : List Value := [.int .i64 x]
theorem IntC_len (x : Int) : (IntC x).length = 1 := rfl
abbrev IntRow := OwnR 1 IntC 3
theorem intRow_reads {w : World} {base : Nat} {v : Value} {l : List Int} (h : IntRow base w v l) : ∃ fp, SlR 1 intR w l v fp ∧ (∀ b, b ∈ fp → base ≤ b) ∧ fp.Nodup ∧ Free fp w := OwnR.reads IntC_len h


theorem setSame {w : World} {b j : Nat} {u : Value} (v : Value) (h : w.cell? ⟨b, j, none⟩ = some u) : (w.setCell ⟨b, j, none⟩ v).cell? ⟨b, j, none⟩ = some v := World.cell?_setCell_same _ _ _ h
theorem setOther {w : World} {b i j : Nat} {u : Value} (v : Value) (hij : i ≠ j) (h : w.cell? ⟨b, j, none⟩ = some u) : (w.setCell ⟨b, i, none⟩ v).cell? ⟨b, j, none⟩ = some u := (World.cell?_setCell_other _ _ _ _ (fun e => hij (by injection e))).trans h

theorem own_lt {w : World} {base : Nat} {v : Value} {l : List Int} (h : IntRow base w v l) {g : Nat} (e : v.ownBlock = some g) : base ≤ g ∧ g < w.heap.size := World.ownsRow.lt h g e

/-- Of what was there (all below B) nothing turns but the reader. -/
structure Low (rb B : Nat) (a b : World) : Prop where
  le : a.heap.size ≤ B
  chg : Chg [rb] a b
theorem Low.step {rb B : Nat} {a b d : World} {fp : List Nat} (h : Low rb B a b) (c : Chg fp b d) (hf : ∀ k, k ∈ fp → k = rb ∨ B ≤ k) : Low rb B a d :=
  ⟨h.le, c.os.trans h.chg.os, c.tape.trans h.chg.tape, c.output.trans h.chg.output, Nat.le_trans h.chg.size c.size, fun k hk hn => (c.block k (Nat.lt_of_lt_of_le hk h.chg.size) (fun hm => by
    have := h.le
    rcases hf k hm with e | e
    · exact hn (by simp [e])
    · omega)).trans (h.chg.block k hk hn)⟩
theorem Low.below {rb B : Nat} {a b d : World} (h : Low rb B a b) (c : Below B b d) : Low rb B a d :=
  ⟨h.le, c.os.trans h.chg.os, c.tape.trans h.chg.tape, c.output.trans h.chg.output, Nat.le_trans h.chg.size c.size, fun k hk hn => (c.block k (Nat.lt_of_lt_of_le hk h.le)).trans (h.chg.block k hk hn)⟩
/-- It is a bool that is so. -/
def IsBP (P : Bool → Prop) (v : Value) : Prop := ∃ b : Bool, v = .bool b ∧ P b
/-- It is a bool. -/
def IsB (v : Value) : Prop := ∃ b : Bool, v = .bool b


/-- a row of the call's own reads so, in its own block -/
theorem OwnR.readsB {α : Type} {K : Nat} {c : α → List Value} {e : TypeId} {base : Nat} {w : World} {v : Value} {l : List α} (hk : ∀ x, (c x).length = K) (h : OwnR K c e base w v l) :
    ∃ fp, SlR K (fun _ x cs fp => cs = c x ∧ fp = []) w l v fp ∧ (∀ b, b ∈ fp → v.ownBlock = some b) ∧ fp.Nodup ∧ Free fp w := by
  have h0 := h
  obtain ⟨hl, ⟨rfl, h1⟩ | ⟨g, cap, cur, rfl, hb, hg, hnc, hcm, hcs, htake⟩⟩ := h
  · obtain rfl : l = [] := by simpa using h1
    exact ⟨[], ⟨none, 0, 0, rfl, rfl, Nat.le_refl _, by simp, .inl ⟨rfl, rfl⟩⟩, by simp, List.nodup_nil, fun b hb => by simp at hb⟩
  · have hgl : g < w.heap.size := by
      rcases Nat.lt_or_ge g w.heap.size with h | h
      · exact h
      · simp [Array.getElem?_eq_none h] at hg
    refine ⟨[g], ⟨_, _, cap, rfl, rfl, hnc, hcm, .inr ⟨g, 0, List.replicate l.length [], rfl, hgl, by simp, by simp, fun i hi h' => ⟨c l[i], ⟨rfl, by simp⟩, fun j hj => ?_⟩⟩⟩, fun b hb => (by have e : b = g := (by simpa using hb); rw [e]; rfl), by simp, ?_⟩
    · have := OwnR.cell hk h0 hi hj
      rwa [Nat.zero_add]
    · intro b hb' o
      obtain rfl : b = g := by simpa using hb'
      exact frozen_of_row w b o cur e hg

theorem setFar {w : World} {g j b i : Nat} {v : Value} (u : Value) (hne : g ≠ b) (h : w.cell? ⟨b, i, none⟩ = some v) : (w.setCell ⟨g, j, none⟩ u).cell? ⟨b, i, none⟩ = some v := (World.cell?_setCell_other _ _ _ _ (fun e => hne (by injection e))).trans h

theorem alloc1_free (w : World) (A : Array Value) (T : TypeId) (i : Nat) : (w.alloc (.cells A T)).frozen? ⟨w.heap.size, i, none⟩ = false := World.frozen?_alloc_at _ _ _ _ rfl

theorem put3_0 {w : World} {b : Nat} {u : Value} (r s t : Value) (h : w.cell? ⟨b, 0, none⟩ = some u) : (((w.setCell ⟨b, 0, none⟩ r).setCell ⟨b, 1, none⟩ s).setCell ⟨b, 2, none⟩ t).cell? ⟨b, 0, none⟩ = some r := setOther _ (by decide) (setOther _ (by decide) (setSame _ h))

theorem put3_1 {w : World} {b : Nat} {u : Value} (r s t : Value) (h : w.cell? ⟨b, 1, none⟩ = some u) : (((w.setCell ⟨b, 0, none⟩ r).setCell ⟨b, 1, none⟩ s).setCell ⟨b, 2, none⟩ t).cell? ⟨b, 1, none⟩ = some s := setOther _ (by decide) (setSame _ (setOther _ (by decide) h))

theorem put3_2 {w : World} {b : Nat} {u : Value} (r s t : Value) (h : w.cell? ⟨b, 2, none⟩ = some u) : (((w.setCell ⟨b, 0, none⟩ r).setCell ⟨b, 1, none⟩ s).setCell ⟨b, 2, none⟩ t).cell? ⟨b, 2, none⟩ = some t := setSame _ (setOther _ (by decide) (setOther _ (by decide) h))

theorem chg3 (b : Nat) (w : World) (r s t : Value) : Chg [b] w (((w.setCell ⟨b, 0, none⟩ r).setCell ⟨b, 1, none⟩ s).setCell ⟨b, 2, none⟩ t) := ((store_chg _).trans' (store_chg _)).trans' (store_chg _)

/-- It returns a bool; of one in nine thousand and more, no. -/
def OddB (n : Int) (e : Ending) : Prop := ∃ b : Bool, e = .returned (.bool b) ∧ (9000 ≤ n → b = false)

theorem odd_any2 (rb : Nat) (fq : List Nat) (N n : Int) (hn : 1 ≤ n) (hn' : n ≤ 1000000) (hN : N ≤ 1000000000) (w : World) (h : RdAt w rb fq N) :
    Calls Tryd.prog 48 #[.pointer (some ⟨rb, 0, none⟩), .int .i64 n] w fun e w' => OddB n e ∧ RdAt w' rb fq (N + 1) ∧ Chg [rb] w w' := by
  have H := Lib.hid h
  clear h
  by_cases h9 : n < 9000
  · go_enter Tryd.func48, Tryd.ntmps48
    go_wp2_with fail
    refine (pick_any rb fq N n hn hn' hN _ H.out).mono ?_
    rintro e w' ⟨x, rfl, x0, x1, h1, h2⟩
    have H1 := Lib.hid h1
    have H2 := Lib.hid h2
    clear h1 h2
    go_wp2
    go_ret
    exact ⟨⟨_, rfl, fun h => absurd h (by omega)⟩, H1.out, H2.out⟩
  · go_enter Tryd.func48, Tryd.ntmps48
    go_wp2
    go_ret
    exact ⟨⟨_, rfl, fun _ => rfl⟩, H.out.mono (by omega), Chg.refl _ _⟩

end Go.Proofs.YtaeiddoccfaheaaDoor
