/-
 Texts of this claim laid together: Uni.
-/
import Derived.Test.YtaeiddoccfaheaaGreatProg
import Derived.Test.YtaeiddoccfaheaaGreatPk04
import Derived.Test.YtaeiddoccfaheaaGreatPk07
import Derived.Test.YtaeiddoccfaheaaGreatPk08
import Derived.Laws.OwnMore
import Derived.WalkSmall
set_option linter.unusedVariables false
set_option linter.unusedSimpArgs false
namespace Go.Proofs.YtaeiddoccfaheaaGreat
open Go.RowKit
def SzP (left : Int) (S : Prop) (w : World) (e : Ending) (w' : World) : Prop := ∃ z : Int, e = .returned (.int .i64 z) ∧ z <= left ∧ (0 <= z -> S) ∧ Below w.heap.size w w'
theorem SzP.neg {left : Int} {S : Prop} {w w' : World} (h0 : 0 <= left) (hb : Below w.heap.size w w') : SzP left S w (.returned (.int .i64 (-1))) w' := ⟨-1, rfl, by omega, fun h => absurd h (by omega), hb⟩
theorem SzP.pos {left z : Int} {S : Prop} {w w' : World} (hz : z <= left) (hS : S) (hb : Below w.heap.size w w') : SzP left S w (.returned (.int .i64 z)) w' := ⟨z, rfl, hz, fun _ => hS, hb⟩
theorem SzP.exact {left : Int} {n : Nat} {S : Prop} {w w' : World} {e : Ending} (h0 : 0 <= left) (h1 : left <= 1048576) (he : e = .returned (.int .i64 (szR left n))) (hS : n <= 1048576 -> S) (hb : Below w.heap.size w w') : SzP left S w e w' := by
 refine ⟨_, he, ?_, ?_, hb⟩
 · unfold szR; split <;> omega
 · intro h
   refine hS ?_
   unfold szR at h; split at h <;> omega
def sm_ints (l : List Int) : Prop := l.length <= 1048576
theorem sz_ints (v : Value) (x : List Int) (fp : List Nat) (left : Int) (h0 : 0 <= left) (h1 : left <= 1048576) (w : World) (g : SlR 1 intR w x v fp) :
 Calls Tryz.prog 21 #[v, .int .i64 left] w (SzP left (sm_ints x) w) :=
 (szIntS_any v x fp left h0 h1 w g).mono fun _ _ ⟨he, hw⟩ => by subst hw; exact SzP.exact h0 h1 he id (Below.refl _ _)
theorem eq_ints (v u : Value) (x y : List Int) (fp fq : List Nat) (w : World) (g : SlR 1 intR w x v fp) (k : SlR 1 intR w y u fq) :
 Calls Tryz.prog 37 #[v, u] w fun e w' => e = .returned (.bool (decide (x = y))) ∧ Below w.heap.size w w' :=
 (eqIntS_any v u x y fp fq w g k).mono fun _ _ ⟨he, n, hw⟩ => ⟨he, by subst hw; exact below_drewN (Below.refl _ _) n⟩
theorem to_ints (v : Value) (x : List Int) (fp : List Nat) (hs : sm_ints x) (w : World) (g : SlR 1 intR w x v fp) :
 Calls Tryz.prog 28 #[v] w fun e w' => ∃ v' fp', e = .returned v' ∧ SlR 1 intR w' x v' fp' ∧ New fp' w w' ∧ Below w.heap.size w w' := toIntS_any v x fp hs w g
/-! ### A row that is filled -/
def putCells (g : Nat) : World -> Nat -> List Value -> World
 | w, _, [] => w
 | w, i, c :: cs => putCells g (w.setCell ⟨g, i, none⟩ c) (i + 1) cs
theorem putCells_below {g B : Nat} {a : World} (hg : B <= g) (cs : List Value) : ∀ (w : World) (i : Nat), Below B a w -> Below B a (putCells g w i cs) := by
 induction cs with
 | nil => intro w i h; exact h
 | cons c cs ih => intro w i h; exact ih _ _ (h.setCell (p := ⟨g, i, none⟩) hg _)
theorem putCells_block {g b : Nat} (hg : b ≠ g) (cs : List Value) : ∀ (w : World) (i : Nat), (putCells g w i cs).heap[b]? = w.heap[b]? := by
 induction cs with
 | nil => intro w i; rfl
 | cons c cs ih => intro w i; rw [putCells, ih]; exact Below.heap_setCell _ _ _ _ hg
theorem putCells_size {g : Nat} (cs : List Value) : ∀ (w : World) (i : Nat), (putCells g w i cs).heap.size = w.heap.size := by
 induction cs with
 | nil => intro w i; rfl
 | cons c cs ih => intro w i; rw [putCells, ih]; simp
theorem putCells_owns {base g n cap size : Nat} {e : TypeId} (cs : List Value) : ∀ (w : World) (i : Nat) (xs : List Value), w.ownsRow base e size (.slice (some ⟨g, 0, none⟩) n cap) n xs -> (putCells g w i cs).ownsRow base e size (.slice (some ⟨g, 0, none⟩) n cap) n (putRow xs i cs) := by
 induction cs with
 | nil => intro w i xs h; exact h
 | cons c cs ih => intro w i xs h; exact ih _ _ _ (h.stored i c).1
def Part {α : Type} (K : Nat) (R : Pr α) (e : TypeId) (g n : Nat) (w : World) (l : List α) (k : Nat) : Prop :=
 ∃ (xs : List Value) (fps : List (List Nat)), w.ownsRow g e K (.slice (some ⟨g, 0, none⟩) n n) n xs ∧ fps.length = k ∧
  (∀ i (h : i < l.length) (h' : i < fps.length), ∃ cs, R w l[i] cs fps[i] ∧ ∀ j (hj : j < cs.length), xs[i * K + j]? = some cs[j]) ∧
  (∀ b, b ∈ fps.flatten -> g < b ∧ b < w.heap.size) ∧ fps.flatten.Nodup ∧ Free fps.flatten w
theorem Part.start {α : Type} {K : Nat} {R : Pr α} {e : TypeId} {g n : Nat} {w : World} {l : List α} {xs : List Value} (h : w.ownsRow g e K (.slice (some ⟨g, 0, none⟩) n n) n xs) : Part K R e g n w l 0 :=
 ⟨xs, [], h, rfl, fun i _ h' => absurd h' (by simp), by simp, by simp, fun b hb => by simp at hb⟩
theorem Part.below {α : Type} {K : Nat} {R : Pr α} (F : Fits K R) {e : TypeId} {g n : Nat} {w w' : World} {l : List α} {k : Nat} (hk : k <= l.length) (h : Part K R e g n w l k) (hb : Below w.heap.size w w') : Part K R e g n w' l k := by
 obtain ⟨xs, fps, h1, h2, h3, h4, h5, h6⟩ := h
 refine ⟨xs, fps, h1.kept (row := none) ⟨hb.os, hb.tape, hb.output, hb.size, fun q hq _ => hb.block q hq⟩ (.inr (by simp [Value.ownBlock])), h2, fun i h h' => ?_, fun b hb' => ⟨(h4 b hb').1, by have := (h4 b hb').2; have := hb.size; omega⟩, h5, h6.below (fun b hb' => (h4 b hb').2) hb⟩
 obtain ⟨cs, hR, hc⟩ := h3 i h h'
 exact ⟨cs, F.below hR hb, hc⟩
theorem Part.lt {α : Type} {K : Nat} {R : Pr α} {e : TypeId} {g n : Nat} {w : World} {l : List α} {k : Nat} (h : Part K R e g n w l k) : g < w.heap.size := by
 obtain ⟨xs, fps, h1, _⟩ := h
 exact (h1.lt g rfl).2
theorem Part.there {α : Type} {K : Nat} {R : Pr α} {e : TypeId} {g n : Nat} {w : World} {l : List α} {k : Nat} (h : Part K R e g n w l k) (j : Nat) (hj : j < n * K) : ∃ x, w.cell? ⟨g, j, none⟩ = some x := by
 obtain ⟨xs, fps, h1, _⟩ := h
 rw [h1.cellAt j hj]
 exact ⟨_, List.getElem?_eq_getElem (by rw [h1.1]; exact hj)⟩
theorem Part.free {α : Type} {K : Nat} {R : Pr α} {e : TypeId} {g n : Nat} {w : World} {l : List α} {k : Nat} (h : Part K R e g n w l k) (j : Nat) : w.frozen? ⟨g, j, none⟩ = false := by
 obtain ⟨xs, fps, h1, _⟩ := h
 exact h1.frozenAt j
theorem Part.step {α : Type} {K : Nat} {R : Pr α} (F : Fits K R) {e : TypeId} {g n : Nat} {w w' : World} {l : List α} {k : Nat} {cs : List Value} {fp : List Nat} (h : Part K R e g n w l k) (hn : l.length = n) (hk : k < l.length) (hb : Below w.heap.size w w') (hR : R w' l[k] cs fp) (hN : New fp w w') :
 Part K R e g n (putCells g w' (k * K) cs) l (k + 1) := by
 obtain ⟨xs, fps, h10, h2, h30, h40, h5, h60⟩ := h
 have h1 := h10.kept (row := none) (w' := w') ⟨hb.os, hb.tape, hb.output, hb.size, fun q hq _ => hb.block q hq⟩ (.inr (by simp [Value.ownBlock]))
 have h6 := h60.below (fun b hb' => (h40 b hb').2) hb
 have h3 : ∀ i (h : i < l.length) (h' : i < fps.length), ∃ cs, R w' l[i] cs fps[i] ∧ ∀ j (hj : j < cs.length), xs[i * K + j]? = some cs[j] := fun i h h' => by
  obtain ⟨cs, hR, hc⟩ := h30 i h h'
  exact ⟨cs, F.below hR hb, hc⟩
 have h4 : ∀ b, b ∈ fps.flatten -> g < b ∧ b < w'.heap.size := fun b hb' => ⟨(h40 b hb').1, by have := (h40 b hb').2; have := hb.size; omega⟩
 have hlen := F.len hR
 have hglt : g < w.heap.size := (h10.lt g rfl).2
 have hnew : ∀ b, b ∈ fp -> g < b ∧ b < w'.heap.size := fun b hb' => ⟨by have := hN.lo b hb'; omega, F.lt hR b hb'⟩
 have hsm : ∀ fq : List Nat, (∀ b, b ∈ fq -> g < b) -> Same fq w' (putCells g w' (k * K) cs) := fun fq hq b hb' => putCells_block (by have := hq b hb'; omega) _ _ _
 refine ⟨putRow xs (k * K) cs, fps ++ [fp], putCells_owns cs _ _ _ h1, by simp [h2], ?_, ?_, ?_, ?_⟩
 · intro i h h'
   have hx := h1.1
   have hkK : (k + 1) * K <= n * K := Nat.mul_le_mul_right K (by omega)
   rw [Nat.succ_mul] at hkK
   by_cases hik : i < k
   · have hi' : i < fps.length := by omega
     obtain ⟨cs', hR', hc'⟩ := h3 i h hi'
     refine ⟨cs', ?_, fun j hj => ?_⟩
     · rw [List.getElem_append_left hi']
       exact F.same hR' (hsm _ fun b hb' => (h4 b (List.mem_flatten.2 ⟨_, List.getElem_mem hi', hb'⟩)).1) (by rw [putCells_size]; exact Nat.le_refl _)
     · have hl' := F.len hR'
       have h1' : (i + 1) * K <= k * K := Nat.mul_le_mul_right K (by omega)
       rw [Nat.succ_mul] at h1'
       rw [putRow_out _ _ _ _ (.inl (by omega))]
       exact hc' j hj
   · have hi' : i = k := by simp [h2] at h'; omega
     subst hi'
     refine ⟨cs, ?_, fun j hj => putRow_in _ _ _ _ hj (by omega)⟩
     rw [List.getElem_append_right (by omega)]
     simp only [h2, Nat.sub_self, List.getElem_cons_zero]
     exact F.same hR (hsm _ fun b hb' => (hnew b hb').1) (by rw [putCells_size]; exact Nat.le_refl _)
 · intro b hb'
   rw [putCells_size]
   rw [List.flatten_append, List.mem_append] at hb'
   rcases hb' with hb' | hb'
   · exact h4 b hb'
   · exact hnew b (by simpa using hb')
 · rw [List.flatten_append]
   refine nodup_app h5 (by simpa using hN.once) fun b hb1 hb2 => ?_
   have hb3 : b ∈ fp := by simpa using hb2
   have := hN.lo b hb3
   have := (h40 b hb1).2
   omega
 · rw [List.flatten_append]
   refine (h6.same (hsm _ fun b hb' => (h4 b hb').1)).app ?_
   have : Free fp (putCells g w' (k * K) cs) := hN.free.same (hsm _ fun b hb' => (hnew b hb').1)
   intro b hb'
   exact this b (by simpa using hb')
theorem Part.done {α : Type} {K : Nat} {R : Pr α} (F : Fits K R) {e : TypeId} {g n : Nat} {w0 w : World} {l : List α} (h : Part K R e g n w l n) (hn : l.length = n) (hm : n <= maxLen) (h0 : w0.heap.size <= g) :
 ∃ fp, SlR K R w l (.slice (some ⟨g, 0, none⟩) n n) fp ∧ New fp w0 w := by
 obtain ⟨xs, fps, h1, h2, h3, h4, h5, h6⟩ := h
 refine ⟨g :: fps.flatten, ⟨_, n, n, rfl, hn, Nat.le_refl _, hm, .inr ⟨g, 0, fps, rfl, (h1.lt g rfl).2, rfl, by omega, fun i h h' => ?_⟩⟩, ⟨fun b hb => ?_, ?_, fun b hb o => ?_⟩⟩
 · obtain ⟨cs, hR, hc⟩ := h3 i h h'
   refine ⟨cs, hR, fun j hj => ?_⟩
   have hl := F.len hR
   have hkK : (i + 1) * K <= n * K := Nat.mul_le_mul_right K (by omega)
   rw [Nat.succ_mul] at hkK
   rw [Nat.zero_add, h1.cellAt _ (by omega)]
   exact hc j hj
 · rcases List.mem_cons.1 hb with rfl | hb
   · exact h0
   · have := (h4 b hb).1; omega
 · exact List.nodup_cons.2 ⟨fun hb => by have := (h4 g hb).1; omega, h5⟩
 · rcases List.mem_cons.1 hb with rfl | hb
   · exact h1.frozenAt o
   · exact h6 b hb o
end Go.Proofs.YtaeiddoccfaheaaGreat
