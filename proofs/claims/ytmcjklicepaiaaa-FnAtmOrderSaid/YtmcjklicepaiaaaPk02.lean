/-
 Texts of this claim laid together: Uni Row Own.
-/
import Derived.Test.YtmcjklicepaiaaaProg
import Derived.Test.YtmcjklicepaiaaaPk01
import Derived.Laws.OwnMore
import Derived.WalkSmall
import Derived.OwnWalk
set_option linter.unusedVariables false
set_option linter.unusedSimpArgs false
namespace Go.Proofs.Ytmcjklicepaiaaa
open Go.RowKit
def SzP (left : Int) (S : Prop) (w : World) (e : Ending) (w' : World) : Prop := ∃ z : Int, e = .returned (.int .i64 z) ∧ z <= left ∧ (0 <= z -> S) ∧ Below w.heap.size w w'
theorem SzP.neg {left : Int} {S : Prop} {w w' : World} (h0 : 0 <= left) (hb : Below w.heap.size w w') : SzP left S w (.returned (.int .i64 (-1))) w' := ⟨-1, rfl, by omega, fun h => absurd h (by omega), hb⟩
theorem SzP.pos {left z : Int} {S : Prop} {w w' : World} (hz : z <= left) (hS : S) (hb : Below w.heap.size w w') : SzP left S w (.returned (.int .i64 z)) w' := ⟨z, rfl, hz, fun _ => hS, hb⟩
theorem SzP.exact {left : Int} {n : Nat} {S : Prop} {w w' : World} {e : Ending} (h0 : 0 <= left) (h1 : left <= 1048576) (he : e = .returned (.int .i64 (szR left n))) (hS : n <= 1048576 -> S) (hb : Below w.heap.size w w') : SzP left S w e w' := by
 refine ⟨_, he, ?_, ?_, hb⟩
 · unfold szR; split <;> omega
 · intro h
   refine hS ?_
   unfold szR at h; split at h <;> omega
/-! ### A row that is filled -/
def putCells (g : Nat) : World -> Nat -> List Value -> World
 | w, _, [] => w
 | w, i, c :: cs => putCells g (w.setCell ⟨g, i, none⟩ c) (i + 1) cs
theorem putCells_below {g B : Nat} {a : World} (hg : B <= g) (cs : List Value) : ∀ (w : World) (i : Nat), Below B a w -> Below B a (putCells g w i cs) := by
 induction cs with
 | nil => intro w i h; exact h
 | cons c cs ih => intro w i h; exact ih _ _ (h.setCell (p := ⟨g, i, none⟩) hg _)
theorem putCells_block {g b : Nat} (hg : b ≠ g) (cs : List Value) : ∀ (w : World) (i : Nat), (putCells g w i cs).heap[b]? = w.heap[b]? := by
 induction cs with
 | nil => intro w i; rfl
 | cons c cs ih => intro w i; rw [putCells, ih]; exact Below.heap_setCell _ _ _ _ hg
theorem putCells_size {g : Nat} (cs : List Value) : ∀ (w : World) (i : Nat), (putCells g w i cs).heap.size = w.heap.size := by
 induction cs with
 | nil => intro w i; rfl
 | cons c cs ih => intro w i; rw [putCells, ih]; simp
theorem putCells_owns {base g n cap size : Nat} {e : TypeId} (cs : List Value) : ∀ (w : World) (i : Nat) (xs : List Value), w.ownsRow base e size (.slice (some ⟨g, 0, none⟩) n cap) n xs -> (putCells g w i cs).ownsRow base e size (.slice (some ⟨g, 0, none⟩) n cap) n (putRow xs i cs) := by
 induction cs with
 | nil => intro w i xs h; exact h
 | cons c cs ih => intro w i xs h; exact ih _ _ _ (h.stored i c).1
def Part {α : Type} (K : Nat) (R : Pr α) (e : TypeId) (g n : Nat) (w : World) (l : List α) (k : Nat) : Prop :=
 ∃ (xs : List Value) (fps : List (List Nat)), w.ownsRow g e K (.slice (some ⟨g, 0, none⟩) n n) n xs ∧ fps.length = k ∧
  (∀ i (h : i < l.length) (h' : i < fps.length), ∃ cs, R w l[i] cs fps[i] ∧ ∀ j (hj : j < cs.length), xs[i * K + j]? = some cs[j]) ∧
  (∀ b, b ∈ fps.flatten -> g < b ∧ b < w.heap.size) ∧ fps.flatten.Nodup ∧ Free fps.flatten w
theorem Part.start {α : Type} {K : Nat} {R : Pr α} {e : TypeId} {g n : Nat} {w : World} {l : List α} {xs : List Value} (h : w.ownsRow g e K (.slice (some ⟨g, 0, none⟩) n n) n xs) : Part K R e g n w l 0 :=
 ⟨xs, [], h, rfl, fun i _ h' => absurd h' (by simp), by simp, by simp, fun b hb => by simp at hb⟩
theorem Part.below {α : Type} {K : Nat} {R : Pr α} (F : Fits K R) {e : TypeId} {g n : Nat} {w w' : World} {l : List α} {k : Nat} (hk : k <= l.length) (h : Part K R e g n w l k) (hb : Below w.heap.size w w') : Part K R e g n w' l k := by
 obtain ⟨xs, fps, h1, h2, h3, h4, h5, h6⟩ := h
 refine ⟨xs, fps, h1.kept (row := none) ⟨hb.os, hb.tape, hb.output, hb.size, fun q hq _ => hb.block q hq⟩ (.inr (by simp [Value.ownBlock])), h2, fun i h h' => ?_, fun b hb' => ⟨(h4 b hb').1, by have := (h4 b hb').2; have := hb.size; omega⟩, h5, h6.below (fun b hb' => (h4 b hb').2) hb⟩
 obtain ⟨cs, hR, hc⟩ := h3 i h h'
 exact ⟨cs, F.below hR hb, hc⟩
theorem Part.lt {α : Type} {K : Nat} {R : Pr α} {e : TypeId} {g n : Nat} {w : World} {l : List α} {k : Nat} (h : Part K R e g n w l k) : g < w.heap.size := by
 obtain ⟨xs, fps, h1, _⟩ := h
 exact (h1.lt g rfl).2
theorem Part.there {α : Type} {K : Nat} {R : Pr α} {e : TypeId} {g n : Nat} {w : World} {l : List α} {k : Nat} (h : Part K R e g n w l k) (j : Nat) (hj : j < n * K) : ∃ x, w.cell? ⟨g, j, none⟩ = some x := by
 obtain ⟨xs, fps, h1, _⟩ := h
 rw [h1.cellAt j hj]
 exact ⟨_, List.getElem?_eq_getElem (by rw [h1.1]; exact hj)⟩
theorem Part.free {α : Type} {K : Nat} {R : Pr α} {e : TypeId} {g n : Nat} {w : World} {l : List α} {k : Nat} (h : Part K R e g n w l k) (j : Nat) : w.frozen? ⟨g, j, none⟩ = false := by
 obtain ⟨xs, fps, h1, _⟩ := h
 exact h1.frozenAt j
theorem Part.step {α : Type} {K : Nat} {R : Pr α} (F : Fits K R) {e : TypeId} {g n : Nat} {w w' : World} {l : List α} {k : Nat} {cs : List Value} {fp : List Nat} (h : Part K R e g n w l k) (hn : l.length = n) (hk : k < l.length) (hb : Below w.heap.size w w') (hR : R w' l[k] cs fp) (hN : New fp w w') :
 Part K R e g n (putCells g w' (k * K) cs) l (k + 1) := by
 obtain ⟨xs, fps, h10, h2, h30, h40, h5, h60⟩ := h
 have h1 := h10.kept (row := none) (w' := w') ⟨hb.os, hb.tape, hb.output, hb.size, fun q hq _ => hb.block q hq⟩ (.inr (by simp [Value.ownBlock]))
 have h6 := h60.below (fun b hb' => (h40 b hb').2) hb
 have h3 : ∀ i (h : i < l.length) (h' : i < fps.length), ∃ cs, R w' l[i] cs fps[i] ∧ ∀ j (hj : j < cs.length), xs[i * K + j]? = some cs[j] := fun i h h' => by
  obtain ⟨cs, hR, hc⟩ := h30 i h h'
  exact ⟨cs, F.below hR hb, hc⟩
 have h4 : ∀ b, b ∈ fps.flatten -> g < b ∧ b < w'.heap.size := fun b hb' => ⟨(h40 b hb').1, by have := (h40 b hb').2; have := hb.size; omega⟩
 have hlen := F.len hR
 have hglt : g < w.heap.size := (h10.lt g rfl).2
 have hnew : ∀ b, b ∈ fp -> g < b ∧ b < w'.heap.size := fun b hb' => ⟨by have := hN.lo b hb'; omega, F.lt hR b hb'⟩
 have hsm : ∀ fq : List Nat, (∀ b, b ∈ fq -> g < b) -> Same fq w' (putCells g w' (k * K) cs) := fun fq hq b hb' => putCells_block (by have := hq b hb'; omega) _ _ _
 refine ⟨putRow xs (k * K) cs, fps ++ [fp], putCells_owns cs _ _ _ h1, by simp [h2], ?_, ?_, ?_, ?_⟩
 · intro i h h'
   have hx := h1.1
   have hkK : (k + 1) * K <= n * K := Nat.mul_le_mul_right K (by omega)
   rw [Nat.succ_mul] at hkK
   by_cases hik : i < k
   · have hi' : i < fps.length := by omega
     obtain ⟨cs', hR', hc'⟩ := h3 i h hi'
     refine ⟨cs', ?_, fun j hj => ?_⟩
     · rw [List.getElem_append_left hi']
       exact F.same hR' (hsm _ fun b hb' => (h4 b (List.mem_flatten.2 ⟨_, List.getElem_mem hi', hb'⟩)).1) (by rw [putCells_size]; exact Nat.le_refl _)
     · have hl' := F.len hR'
       have h1' : (i + 1) * K <= k * K := Nat.mul_le_mul_right K (by omega)
       rw [Nat.succ_mul] at h1'
       rw [putRow_out _ _ _ _ (.inl (by omega))]
       exact hc' j hj
   · have hi' : i = k := by simp [h2] at h'; omega
     subst hi'
     refine ⟨cs, ?_, fun j hj => putRow_in _ _ _ _ hj (by omega)⟩
     rw [List.getElem_append_right (by omega)]
     simp only [h2, Nat.sub_self, List.getElem_cons_zero]
     exact F.same hR (hsm _ fun b hb' => (hnew b hb').1) (by rw [putCells_size]; exact Nat.le_refl _)
 · intro b hb'
   rw [putCells_size]
   rw [List.flatten_append, List.mem_append] at hb'
   rcases hb' with hb' | hb'
   · exact h4 b hb'
   · exact hnew b (by simpa using hb')
 · rw [List.flatten_append]
   refine nodup_app h5 (by simpa using hN.once) fun b hb1 hb2 => ?_
   have hb3 : b ∈ fp := by simpa using hb2
   have := hN.lo b hb3
   have := (h40 b hb1).2
   omega
 · rw [List.flatten_append]
   refine (h6.same (hsm _ fun b hb' => (h4 b hb').1)).app ?_
   have : Free fp (putCells g w' (k * K) cs) := hN.free.same (hsm _ fun b hb' => (hnew b hb').1)
   intro b hb'
   exact this b (by simpa using hb')
theorem Part.done {α : Type} {K : Nat} {R : Pr α} (F : Fits K R) {e : TypeId} {g n : Nat} {w0 w : World} {l : List α} (h : Part K R e g n w l n) (hn : l.length = n) (hm : n <= maxLen) (h0 : w0.heap.size <= g) :
 ∃ fp, SlR K R w l (.slice (some ⟨g, 0, none⟩) n n) fp ∧ New fp w0 w := by
 obtain ⟨xs, fps, h1, h2, h3, h4, h5, h6⟩ := h
 refine ⟨g :: fps.flatten, ⟨_, n, n, rfl, hn, Nat.le_refl _, hm, .inr ⟨g, 0, fps, rfl, (h1.lt g rfl).2, rfl, by omega, fun i h h' => ?_⟩⟩, ⟨fun b hb => ?_, ?_, fun b hb o => ?_⟩⟩
 · obtain ⟨cs, hR, hc⟩ := h3 i h h'
   refine ⟨cs, hR, fun j hj => ?_⟩
   have hl := F.len hR
   have hkK : (i + 1) * K <= n * K := Nat.mul_le_mul_right K (by omega)
   rw [Nat.succ_mul] at hkK
   rw [Nat.zero_add, h1.cellAt _ (by omega)]
   exact hc j hj
 · rcases List.mem_cons.1 hb with rfl | hb
   · exact h0
   · have := (h4 b hb).1; omega
 · exact List.nodup_cons.2 ⟨fun hb => by have := (h4 g hb).1; omega, h5⟩
 · rcases List.mem_cons.1 hb with rfl | hb
   · exact h1.frozenAt o
   · exact h6 b hb o
end Go.Proofs.Ytmcjklicepaiaaa
namespace Go.Proofs.Ytmcjklicepaiaaa
open Go.RowKit
theorem flat_len {α : Type} {K : Nat} {c : α -> List Value} (hk : ∀ x, (c x).length = K) (l : List α) : (l.flatMap c).length = l.length * K := by
 induction l with
 | nil => simp
 | cons x l ih => rw [List.flatMap_cons, List.length_append, ih, hk, List.length_cons, Nat.succ_mul, Nat.add_comm]
theorem flat_at {α : Type} {K : Nat} {c : α -> List Value} (hk : ∀ x, (c x).length = K) (l : List α) : ∀ i (hi : i < l.length) j (hj : j < (c l[i]).length), (l.flatMap c)[i * K + j]? = some (c l[i])[j] := by
 induction l with
 | nil => intro i hi; simp at hi
 | cons x l ih =>
  intro i hi j hj
  rw [List.flatMap_cons]
  cases i with
  | zero =>
   simp only [List.getElem_cons_zero] at hj ⊢
   rw [Nat.zero_mul, Nat.zero_add, List.getElem?_append_left (by simpa using hj)]
   exact List.getElem?_eq_getElem _
  | succ i =>
   simp only [List.getElem_cons_succ] at hj ⊢
   rw [List.getElem?_append_right (by rw [hk, Nat.succ_mul]; omega), hk, Nat.succ_mul, show i * K + K + j - K = i * K + j by omega]
   exact ih i (by simpa using hi) j hj
theorem SlR.clip {α : Type} {k : Nat} {R : Pr α} {w : World} {l : List α} {a : Option Addr} {n c : Nat} {fp : List Nat} (h : SlR k R w l (.slice a n c) fp) : SlR k R w l (.slice a n n) fp := by
 obtain ⟨a', n', cap, e, hn, hcap, hcm, hr⟩ := h
 simp only [Value.slice.injEq] at e
 obtain ⟨rfl, rfl, rfl⟩ := e
 exact ⟨a, n, n, rfl, hn, Nat.le_refl _, by omega, hr⟩
theorem putCells_out {g : Nat} (cs : List Value) : ∀ (w : World) (i q : Nat), (q < i ∨ i + cs.length <= q) -> (putCells g w i cs).cell? ⟨g, q, none⟩ = w.cell? ⟨g, q, none⟩ := by
 induction cs with
 | nil => intro w i q _; rfl
 | cons c cs ih =>
  intro w i q h
  simp only [List.length_cons] at h
  rw [putCells, ih _ _ _ (by omega)]
  exact World.cell?_setCell_other _ _ _ _ (fun e => by injection e; omega)
theorem putCells_in {g : Nat} (cs : List Value) : ∀ (w : World) (i j : Nat) (hj : j < cs.length), (∀ q, q < cs.length -> ∃ x, w.cell? ⟨g, i + q, none⟩ = some x) -> (putCells g w i cs).cell? ⟨g, i + j, none⟩ = some cs[j] := by
 induction cs with
 | nil => intro w i j hj _; simp at hj
 | cons c cs ih =>
  intro w i j hj h
  simp only [List.length_cons] at hj h
  cases j with
  | zero =>
   rw [putCells, putCells_out _ _ _ _ (.inl (by omega))]
   obtain ⟨x, hx⟩ := h 0 (by omega)
   exact World.cell?_setCell_same _ _ _ hx
  | succ j =>
   rw [putCells, show i + (j + 1) = i + 1 + j by omega]
   refine ih _ _ _ (by omega) fun q hq => ?_
   obtain ⟨x, hx⟩ := h (q + 1) (by omega)
   refine ⟨x, (World.cell?_setCell_other _ _ _ _ (fun e => by injection e; omega)).trans ?_⟩
   rw [show i + 1 + q = i + (q + 1) by omega]; exact hx
theorem putCells_free {g : Nat} {fp : List Nat} (cs : List Value) : ∀ (w : World) (i : Nat), Free fp w -> Free fp (putCells g w i cs) := by
 induction cs with
 | nil => intro w i h; exact h
 | cons c cs ih => intro w i h; exact ih _ _ (h.setCell _ _)
theorem putCells_chg {g : Nat} {fp : List Nat} (hg : g ∈ fp) (cs : List Value) (w : World) (i : Nat) : Chg fp w (putCells g w i cs) := by
 induction cs generalizing w i with
 | nil => exact Chg.refl _ _
 | cons c cs ih =>
  have h1 : Chg fp w (w.setCell ⟨g, i, none⟩ c) := ⟨rfl, rfl, rfl, by simp, fun k _ hk => Below.heap_setCell _ _ _ _ (fun e => hk (by rw [e]; exact hg))⟩
  exact h1.trans' (ih _ _)
theorem SlR.put {α : Type} {K : Nat} {c : α -> List Value} (hk : ∀ x, (c x).length = K) {w : World} {l : List α} {a : Option Addr} {n cap b off : Nat} {fp : List Nat} (h : SlR K (fun _ x cs fp => cs = c x ∧ fp = []) w l (.slice a n cap) fp) (ha : a = some ⟨b, off, none⟩) {i : Nat} (hi : i < n) (x : α) :
 SlR K (fun _ x cs fp => cs = c x ∧ fp = []) (putCells b w (off + i * K) (c x)) (l.set i x) (.slice a n cap) fp ∧ Chg fp w (putCells b w (off + i * K) (c x)) ∧ b ∈ fp := by
 obtain ⟨a', n', cap', e, hn, hcap, hcm, ⟨rfl, rfl⟩ | ⟨b', off', fps, rfl, hb, rfl, hf, hc⟩⟩ := h
 · simp only [Value.slice.injEq] at e
   obtain ⟨_, rfl, _⟩ := e
   simp at hn
   omega
 · simp only [Value.slice.injEq] at e
   obtain ⟨e1, rfl, rfl⟩ := e
   subst ha
   simp only [Option.some.injEq, Addr.mk.injEq, and_true] at e1
   obtain ⟨rfl, rfl⟩ := e1
   refine ⟨⟨_, n, cap, rfl, by simpa using hn, hcap, hcm, .inr ⟨b, off, fps, rfl, by rw [putCells_size]; exact hb, rfl, by simpa using hf, fun j h h' => ?_⟩⟩, putCells_chg (List.mem_cons_self ..) _ _ _, List.mem_cons_self ..⟩
   have hj : j < l.length := by simpa using h
   obtain ⟨cs, ⟨rfl, hfj⟩, hcell⟩ := hc j hj h'
   refine ⟨c ((l.set i x)[j]), ⟨rfl, hfj⟩, fun q hq => ?_⟩
   have hqK : q < K := by rw [hk] at hq; exact hq
   by_cases hji : i = j
   · subst hji
     have := putCells_in (g := b) (c x) w (off + i * K) q (by rw [hk]; exact hqK) (fun q' hq' => ⟨_, hcell q' (by rw [hk] at hq' ⊢; exact hq')⟩)
     rw [this]
     simp
   · rw [putCells_out _ _ _ _ (by
      rw [hk]
      rcases Nat.lt_or_gt_of_ne hji with h1 | h1
      · right; have : (i + 1) * K <= j * K := Nat.mul_le_mul_right K (by omega); rw [Nat.succ_mul] at this; omega
      · left; have : (j + 1) * K <= i * K := Nat.mul_le_mul_right K (by omega); rw [Nat.succ_mul] at this; omega)]
     rw [hcell q (by rw [hk]; exact hqK)]
     simp [hji]
end Go.Proofs.Ytmcjklicepaiaaa
namespace Go.Proofs.Ytmcjklicepaiaaa
open Go.RowKit Go.WideShapes
variable {α : Type} {K : Nat} {c : α -> List Value} {e : TypeId} {w w' : World} {base : Nat} {v : Value} {l : List α}
def OwnR (K : Nat) (c : α -> List Value) (e : TypeId) (base : Nat) (w : World) (v : Value) (l : List α) : Prop := w.ownsRow base e K v l.length (l.flatMap c)
theorem OwnR.reads (hk : ∀ x, (c x).length = K) (h : OwnR K c e base w v l) : ∃ fp, SlR K (fun _ x cs fp => cs = c x ∧ fp = []) w l v fp ∧ (∀ b, b ∈ fp -> base <= b) ∧ fp.Nodup ∧ Free fp w :=
 SlR.of_owns h rfl hk (flat_at hk _)
theorem OwnR.chg {rb : Nat} (h : OwnR K c e base w v l) (hc : Chg [rb] w w') (hrb : rb < base) : OwnR K c e base w' v l :=
 World.ownsRow.kept h (row := some rb) ⟨hc.os, hc.tape, hc.output, hc.size, fun k hk hne => hc.block k hk (by simp; intro e; exact hne (by rw [e]))⟩ (.inr (fun q => by have := (World.ownsRow.lt h rb q).1; omega))
theorem OwnR.below (h : OwnR K c e base w v l) (hb : Below w.heap.size w w') : OwnR K c e base w' v l :=
 World.ownsRow.kept h (row := none) ⟨hb.os, hb.tape, hb.output, hb.size, fun k hk _ => hb.block k hk⟩ (by
  rcases h.2 with ⟨rfl, _⟩ | ⟨g, cap, cur, rfl, _⟩
  · exact .inl rfl
  · exact .inr (by simp [Value.ownBlock]))
theorem OwnR.lower {base' : Nat} (h : OwnR K c e base w v l) (hb : base' <= base) : OwnR K c e base' w v l :=
 ⟨h.1, h.2.elim .inl fun ⟨g, cap, cur, q, hg, r⟩ => .inr ⟨g, cap, cur, q, Nat.le_trans hb hg, r⟩⟩
theorem OwnR.nil (w : World) (base : Nat) : OwnR K c e base w (.slice none 0 0) [] := World.ownsRow_nil w base e K
theorem OwnR.lit (w : World) (A : Array Value) (n : Nat) (l : List α) (hk : ∀ x, (c x).length = K) (hA : A.toList = l.flatMap c) (hn : l.length = n) (hb : base <= w.heap.size) (hm : n <= maxLen) : OwnR K c e base (w.alloc (.cells A e)) (.slice (some ⟨w.heap.size, 0, none⟩) n n) l := by
 subst hn
 unfold OwnR
 rw [<- hA]
 exact World.ownsRow_lit w A l.length hb hm (by rw [<- Array.length_toList, hA, flat_len hk])
theorem OwnR.form (h : OwnR K c e base w v l) (hl : l ≠ []) : ∃ g cap, v = .slice (some ⟨g, 0, none⟩) l.length cap ∧ base <= g ∧ g < w.heap.size ∧ l.length <= cap ∧ cap <= maxLen := by
 rcases h.2 with ⟨rfl, h0⟩ | ⟨g, cap, cur, rfl, hb, hg, hnc, hcm, _⟩
 · simp at h0; exact absurd h0 hl
 · refine ⟨g, cap, rfl, hb, ?_, hnc, hcm⟩
   rcases Nat.lt_or_ge g w.heap.size with h | h
   · exact h
   · simp [Array.getElem?_eq_none h] at hg
theorem OwnR.slice (h : OwnR K c e base w v l) : ∃ (a : Option Addr) (n cap : Nat), v = .slice a n cap ∧ l.length = n ∧ n <= cap ∧ cap <= maxLen := by
 rcases h.2 with ⟨rfl, h0⟩ | ⟨g, cap, cur, rfl, hb, hg, hnc, hcm, _⟩
 · exact ⟨_, _, _, rfl, h0, Nat.le_refl _, Nat.zero_le _⟩
 · exact ⟨_, _, _, rfl, rfl, hnc, hcm⟩
theorem flat_take (hk : ∀ x, (c x).length = K) (l : List α) : ∀ m, (l.flatMap c).take (m * K) = (l.take m).flatMap c := by
 induction l with
 | nil => intro m; simp
 | cons x l ih =>
  intro m
  cases m with
  | zero => simp
  | succ m =>
   rw [List.flatMap_cons, List.take_succ_cons, List.flatMap_cons, Nat.succ_mul, Nat.add_comm, <- hk x, List.take_length_add_append, hk x, ih]
theorem flat_set (hk : ∀ x, (c x).length = K) (l : List α) (x' : α) (u : Value) (j : Nat) (hj : j < K) : ∀ (i : Nat) (hi : i < l.length), c x' = (c l[i]).set j u -> (l.flatMap c).set (i * K + j) u = (l.set i x').flatMap c := by
 induction l with
 | nil => intro i hi; simp at hi
 | cons x l ih =>
  intro i hi hx
  cases i with
  | zero =>
   simp only [List.getElem_cons_zero] at hx
   rw [List.flatMap_cons, List.set_cons_zero, List.flatMap_cons, hx, Nat.zero_mul, Nat.zero_add, List.set_append_left _ _ (by rw [hk]; exact hj)]
  | succ i =>
   simp only [List.getElem_cons_succ] at hx
   rw [List.flatMap_cons, List.set_cons_succ, List.flatMap_cons, List.set_append_right _ _ (by rw [hk, Nat.succ_mul]; omega), hk,
    show (i + 1) * K + j - K = i * K + j by rw [Nat.succ_mul]; omega, ih i (by simpa using hi) hx]
theorem OwnR.take {g n cap : Nat} (hk : ∀ x, (c x).length = K) (h : OwnR K c e base w (.slice (some ⟨g, 0, none⟩) n cap) l) (m : Nat) (hm : m <= l.length) : OwnR K c e base w (.slice (some ⟨g, 0, none⟩) m cap) (l.take m) := by
 have hlm : (l.take m).length = m := by simp; omega
 obtain ⟨hl, ⟨h1, _⟩ | ⟨g', cap', cur, h1, hb, hg, hnc, hcm, hcs, ht⟩⟩ := h
 · simp at h1
 · simp only [Value.slice.injEq, Option.some.injEq, Addr.mk.injEq, and_true] at h1
   obtain ⟨rfl, rfl, rfl⟩ := h1
   unfold OwnR
   rw [hlm]
   refine ⟨by rw [flat_len hk, hlm], .inr ⟨g, cap, cur, rfl, hb, hg, by omega, hcm, hcs, ?_⟩⟩
   rw [<- flat_take hk, <- ht, List.take_take]
   congr 1
   exact (Nat.min_eq_left (Nat.mul_le_mul_right K hm)).symm
theorem OwnR.cell {g n cap : Nat} (hk : ∀ x, (c x).length = K) (h : OwnR K c e base w (.slice (some ⟨g, 0, none⟩) n cap) l) {i : Nat} (hi : i < l.length) {j : Nat} (hj : j < (c l[i]).length) : w.cell? ⟨g, i * K + j, none⟩ = some (c l[i])[j] := by
 have hn : n = l.length := by
  obtain ⟨_, ⟨h1, _⟩ | ⟨g', cap', cur, h1, _⟩⟩ := h
  · simp at h1
  · simp only [Value.slice.injEq] at h1; exact h1.2.1
 subst hn
 have hlt : i * K + j < l.length * K := by
  have h3 := hk l[i]
  have : (i + 1) * K <= l.length * K := Nat.mul_le_mul_right K (by omega)
  rw [Nat.succ_mul] at this
  omega
 rw [World.ownsRow.cellAt h _ hlt, flat_at hk l i hi j hj]
theorem OwnR.frozen {g n cap : Nat} (h : OwnR K c e base w (.slice (some ⟨g, 0, none⟩) n cap) l) (j : Nat) : w.frozen? ⟨g, j, none⟩ = false := by
 have hn : n = l.length := by
  obtain ⟨_, ⟨h1, _⟩ | ⟨g', cap', cur, h1, _⟩⟩ := h
  · simp at h1
  · simp only [Value.slice.injEq] at h1; exact h1.2.1
 subst hn
 exact World.ownsRow.frozenAt h j
theorem OwnR.store {g n cap : Nat} (hk : ∀ x, (c x).length = K) (h : OwnR K c e base w (.slice (some ⟨g, 0, none⟩) n cap) l) {i : Nat} (hi : i < l.length) {j : Nat} (hj : j < K) (u : Value) (x' : α) (hx : c x' = (c l[i]).set j u) :
 OwnR K c e base (w.setCell ⟨g, i * K + j, none⟩ u) (.slice (some ⟨g, 0, none⟩) n cap) (l.set i x') := by
 have hn : n = l.length := by
  obtain ⟨_, ⟨h1, _⟩ | ⟨g', cap', cur, h1, _⟩⟩ := h
  · simp at h1
  · simp only [Value.slice.injEq] at h1; exact h1.2.1
 subst hn
 have := (World.ownsRow.stored h (i * K + j) u).1
 unfold OwnR
 rw [List.length_set, <- flat_set hk l x' u j hj i hi hx]
 exact this
theorem store_chg {w : World} {g j : Nat} (u : Value) : Chg [g] w (w.setCell ⟨g, j, none⟩ u) := ⟨rfl, rfl, rfl, by simp, fun k _ hk => Below.heap_setCell _ _ _ _ (fun e => hk (by simp [e]))⟩
theorem Chg.low {fp : List Nat} {a b d : World} (h : Chg fp a b) (hb : Below a.heap.size b d) : Chg fp a d :=
 ⟨hb.os.trans h.os, hb.tape.trans h.tape, hb.output.trans h.output, Nat.le_trans h.size hb.size, fun k hk hn => (hb.block k hk).trans (h.block k hk hn)⟩
theorem Free.low {fp : List Nat} {B : Nat} {a b : World} (h : Free fp a) (hb : Below B a b) (hl : ∀ k, k ∈ fp -> k < B) : Free fp b := fun k hk o => (World.frozen?_of_block (hb.block k (hl k hk))).trans (h k hk o)
theorem SlR.low {α : Type} {k : Nat} {R : Pr α} (F : Fits k R) {B : Nat} {w w' : World} {l : List α} {v : Value} {fp : List Nat} (h : SlR k R w l v fp) (hb : Below B w w') (hl : ∀ b, b ∈ fp -> b < B) : SlR k R w' l v fp :=
 h.same F (fun b hb' => hb.block b (hl b hb')) hb.size
theorem wpList_pushR {P : Program} {ops : Array Oper} {rest : List Oper} {o : Oper} {a : Act} {Q : Exit -> Act -> World -> Prop} {w : World} {base m : Nat} {v : Value} {l news : List α} {A : Array Value}
 (hgd : o.guard = none) (s x : Operand) (t e : TypeId) (i : TypeInfo) (z : Value) (bytes : Nat) (T : TypeId) (hk : ∀ x, (c x).length = K)
 (ho : o.op = .call { callee := .builtin .append, args := #[s, x], argTypes := #[t, t] })
 (ht : P.underlying t = some (.slice e)) (hi : P.info? e = some i) (hz : i.zero = some z) (hsize : i.size = K) (hby : i.bytes = bytes) (hzs : z.cells.size = K) (hsz : 0 < K) (hb8 : bytes <= 128)
 (hs : a.eval s = v) (hx : a.eval x = .slice (some ⟨w.heap.size, 0, none⟩) m m) (hown : OwnR K c e base w v l) (hA : A.toList = news.flatMap c) (hm : news.length = m) (h1 : ∀ u ∈ news.flatMap c, u.oneCell' = true)
 (hn : l.length <= 2000000) (hmm : m <= 1000) (hbase : base <= w.heap.size)
 (h : ∀ v' w', OwnR K c e base w' v' (l ++ news) -> Below base w w' -> wpList P ops Q rest (a.put o.dst v') w') :
 wpList P ops Q (o :: rest) a (w.alloc (.cells A T)) := by
 have hl : (news.flatMap c).length = m * K := by rw [flat_len hk, hm]
 refine wpList_append_own _ hgd s x t ho base e i z K bytes ht hi hz hsize hby hzs hsz v l.length (l.flatMap c) hs (World.ownsRow.alloc hown _) ⟨w.heap.size, 0, none⟩ m m (news.flatMap c) hx hl ?_ h1 (by unfold maxLen; omega) ?_ (by simp; omega) ?_
 · intro j u hj
   rw [add_plain, Nat.zero_add]
   exact alloc1_new w _ _ j (by rw [<- Array.getElem?_toList, hA]; exact hj)
 · have : (l.length + m) * bytes <= 2001000 * 128 := Nat.mul_le_mul (by omega) hb8
   omega
 · intro v' w' hown' hgr _
   have hz1 : w.heap.size <= w'.heap.size := by have := hgr.size; simp at this; omega
   have ho' : OwnR K c e base w' v' (l ++ news) := by
    unfold OwnR
    rw [List.length_append, List.flatMap_append, hm]
    exact hown'
   exact h v' w' ho' ⟨hgr.os, hgr.tape, hgr.output, hz1, fun k hk => (hgr.block k (by simp; omega) (fun q => by have := (World.ownsRow.lt hown k q.symm).1; omega)).trans (Below.heap_alloc _ _ _ (by omega))⟩
theorem SlR.flat_cells (hk : ∀ x, (c x).length = K) (h0 : 0 < K) {b off n cap : Nat} {fp : List Nat} (h : SlR K (fun _ x cs fp => cs = c x ∧ fp = []) w l (.slice (some ⟨b, off, none⟩) n cap) fp) : ∀ j u, (l.flatMap c)[j]? = some u -> w.cell? ((⟨b, off, none⟩ : Addr).add j) = some u := by
 intro j u hj
 have hjl : j < l.length * K := by
  have := (List.getElem?_eq_some_iff.1 hj).1
  rwa [flat_len hk] at this
 have hi : j / K < l.length := Nat.div_lt_of_lt_mul (by rw [Nat.mul_comm]; exact hjl)
 have hm : j % K < K := Nat.mod_lt _ h0
 have e : j / K * K + j % K = j := Nat.div_add_mod' j K
 obtain ⟨a', n', cap', e1, hn, _, _, ⟨rfl, _⟩ | ⟨b', off', fps, e2, _, _, hf, hc⟩⟩ := h
 · simp at hi
 · simp only [Value.slice.injEq] at e1
   obtain ⟨rfl, rfl, rfl⟩ := e1
   simp only [Option.some.injEq, Addr.mk.injEq, and_true] at e2
   obtain ⟨rfl, rfl⟩ := e2
   obtain ⟨cs, ⟨rfl, _⟩, hcell⟩ := hc (j / K) hi (by omega)
   have hj' := hcell (j % K) (by rw [hk]; exact hm)
   have h2 := flat_at hk l (j / K) hi (j % K) (by rw [hk]; exact hm)
   rw [e] at h2
   rw [hj] at h2
   rw [add_plain, show off + j = off + j / K * K + j % K by omega, hj']
   exact h2.symm
theorem wpList_appendR {P : Program} {ops : Array Oper} {rest : List Oper} {o : Oper} {a : Act} {Q : Exit -> Act -> World -> Prop} {base m c2 : Nat} {v : Value} {l news : List α} {A : Addr}
 (hgd : o.guard = none) (s x : Operand) (t e : TypeId) (i : TypeInfo) (z : Value) (bytes : Nat) (hk : ∀ x, (c x).length = K)
 (ho : o.op = .call { callee := .builtin .append, args := #[s, x], argTypes := #[t, t] })
 (ht : P.underlying t = some (.slice e)) (hi : P.info? e = some i) (hz : i.zero = some z) (hsize : i.size = K) (hby : i.bytes = bytes) (hzs : z.cells.size = K) (hsz : 0 < K) (hb8 : bytes <= 128)
 (hs : a.eval s = v) (hx : a.eval x = .slice (some A) m c2) (hown : OwnR K c e base w v l) (hm : news.length = m) (hnews : ∀ j u, (news.flatMap c)[j]? = some u -> w.cell? (A.add j) = some u) (h1 : ∀ u ∈ news.flatMap c, u.oneCell' = true)
 (hn : l.length <= 2000000) (hmm : m <= 2000000) (hbase : base <= w.heap.size)
 (h : ∀ v' w', OwnR K c e base w' v' (l ++ news) -> w.grownBy w' v.ownBlock -> wpList P ops Q rest (a.put o.dst v') w') :
 wpList P ops Q (o :: rest) a w := by
 have hl : (news.flatMap c).length = m * K := by rw [flat_len hk, hm]
 refine wpList_append_own _ hgd s x t ho base e i z K bytes ht hi hz hsize hby hzs hsz v l.length (l.flatMap c) hs hown A m c2 (news.flatMap c) hx hl hnews h1 (by unfold maxLen; omega) ?_ hbase ?_
 · have : (l.length + m) * bytes <= 4000000 * 128 := Nat.mul_le_mul (by omega) hb8
   omega
 · intro v' w' hown' hgr _
   refine h v' w' ?_ hgr
   unfold OwnR
   rw [List.length_append, List.flatMap_append, hm]
   exact hown'
theorem wpList_append_empty {P : Program} {ops : Array Oper} {rest : List Oper} {o : Oper} {a : Act} {Q : Exit -> Act -> World -> Prop} {m c2 : Nat} {news : List α} {A B : Addr}
 (hgd : o.guard = none) (s x : Operand) (t e : TypeId) (i : TypeInfo) (z : Value) (bytes : Nat) (hk : ∀ x, (c x).length = K)
 (ho : o.op = .call { callee := .builtin .append, args := #[s, x], argTypes := #[t, t] })
 (ht : P.underlying t = some (.slice e)) (hi : P.info? e = some i) (hz : i.zero = some z) (hsize : i.size = K) (hby : i.bytes = bytes) (hzs : z.cells.size = K) (hb8 : bytes <= 128)
 (hs : a.eval s = .slice (some B) 0 0) (hx : a.eval x = .slice (some A) m c2) (hm : news.length = m) (h0 : 0 < m) (hnews : ∀ j u, (news.flatMap c)[j]? = some u -> w.cell? (A.add j) = some u)
 (hmm : m <= 2000000)
 (h : ∀ v' w', OwnR K c e w.heap.size w' v' news -> Below w.heap.size w w' -> wpList P ops Q rest (a.put o.dst v') w') :
 wpList P ops Q (o :: rest) a w := by
 have hl : (news.flatMap c).length = m * K := by rw [flat_len hk, hm]
 subst hsize
 have hmb : m * i.bytes <= 2000000 * 128 := Nat.mul_le_mul hmm (by omega)
 have hfit : Builtin.nextslicecap (0 + m) 0 * i.bytes <= 281474976710656 := by rw [Nat.zero_add]; exact growslice_fits h0 (by omega)
 refine wpList_plain hgd fun K' hK' => ?_
 have hr := run_append_grow (P := P) w t o.type e i z ht hi hz B 0 0 [] (by simp) (fun j v hj => by simp at hj) A m c2 (news.flatMap c) hl hnews (by omega) (by omega) hfit
 have hge := grownCap_ge w (0 + m) 0 e
 have hcm := grownCap_le_maxLen w (0 + m) 0 e (by unfold maxLen; omega)
 unfold Oper.wp execOp
 simp only [ho, resolve, invoke, builtin, Sem.run_bind, Sem.run_pure, Result.andThen_ok, List.map_toArray, List.map_cons, List.map_nil, hs, hx, hr]
 generalize grownCap w (0 + m) 0 e = G at *
 refine hK' _ _ (h _ _ ?_ ?_)
 · have hd : w.drew.heap.size = w.heap.size := rfl
   refine ⟨by rw [hl, hm], .inr ⟨w.heap.size, G, _, by rw [Nat.zero_add, hm], Nat.le_refl _, heap_alloc_new w.drew _, by omega, hcm, ?_, ?_⟩⟩
   · simp only [Array.size_append, List.size_toArray, size_zeroCells, hzs, hl, List.length_nil, Nat.zero_add, <- Nat.add_mul]
     congr 1
     omega
   · simp only [Array.toList_append, List.nil_append, hm]
     rw [<- hl]
     exact List.take_left
 · exact (Below.refl _ w).drew.alloc (Nat.le_refl _) _
theorem wpList_appendB {P : Program} {ops : Array Oper} {rest : List Oper} {o : Oper} {a : Act} {Q : Exit -> Act -> World -> Prop} {base m c2 : Nat} {v : Value} {l news : List α} {A : Addr}
 (hgd : o.guard = none) (s x : Operand) (t e : TypeId) (i : TypeInfo) (z : Value) (bytes : Nat) (hk : ∀ x, (c x).length = K)
 (ho : o.op = .call { callee := .builtin .append, args := #[s, x], argTypes := #[t, t] })
 (ht : P.underlying t = some (.slice e)) (hi : P.info? e = some i) (hz : i.zero = some z) (hsize : i.size = K) (hby : i.bytes = bytes) (hzs : z.cells.size = K) (hsz : 0 < K) (hb8 : bytes <= 128)
 (hs : a.eval s = v) (hx : a.eval x = .slice (some A) m c2) (hown : OwnR K c e base w v l) (hm : news.length = m) (hm0 : 0 < m) (hnews : ∀ j u, (news.flatMap c)[j]? = some u -> w.cell? (A.add j) = some u) (h1 : ∀ u ∈ news.flatMap c, u.oneCell' = true)
 (hn : l.length <= 2000000) (hmm : m <= 2000000) (hbase : base <= w.heap.size)
 (h : ∀ v' w', OwnR K c e base w' v' (l ++ news) -> w.grownBy w' v.ownBlock -> (v'.ownBlock = v.ownBlock ∨ v'.ownBlock = some w.heap.size) -> wpList P ops Q rest (a.put o.dst v') w') :
 wpList P ops Q (o :: rest) a w := by
 have hl : (news.flatMap c).length = m * K := by rw [flat_len hk, hm]
 have hmb : (l.length + m) * bytes <= 4000000 * 128 := Nat.mul_le_mul (by omega) hb8
 obtain ⟨v', w', hr, hown', hgr, _⟩ := run_append_own (P := P) w base t o.type e i z K bytes ht hi hz hsize hby hzs hsz v l.length (l.flatMap c) hown A m c2 (news.flatMap c) hl hnews h1 (by unfold maxLen; omega) (by omega) hbase
 have hblk : v'.ownBlock = v.ownBlock ∨ v'.ownBlock = some w.heap.size := by
  subst hsize
  rcases hown.2 with ⟨rfl, h0⟩ | ⟨g, cap, cur, rfl, hbg, hg, hnc, hcm, hcs, htake⟩
  · have hr2 := run_append_nil (P := P) w t o.type e i z ht hi hz A m c2 (news.flatMap c) hl hnews hm0 (by omega) (by rw [hby]; have : m * bytes <= (l.length + m) * bytes := Nat.mul_le_mul_right _ (by omega); omega)
    rw [hr] at hr2
    injection hr2 with e1 e2
    right
    rw [e1]
    rfl
  · by_cases hroom : l.length + m <= cap
    · have hr2 := run_append_room (P := P) w t o.type e i ht hi g l.length cap cur hg A m c2 (news.flatMap c) hl hnews h1 hroom (by rw [hl, hcs, <- Nat.add_mul]; exact Nat.mul_le_mul_right _ hroom)
      rw [hr] at hr2
      injection hr2 with e1 e2
      left
      rw [e1]
      rfl
    · have hr2 := run_append_grow (P := P) w t o.type e i z ht hi hz ⟨g, 0, none⟩ l.length cap (l.flatMap c) (flat_len hk l) (World.ownsRow.cells hown (g := g) rfl) A m c2 (news.flatMap c) hl hnews (by omega) (by omega) (growslice_fits (by omega) (by rw [hby]; omega))
      rw [hr] at hr2
      injection hr2 with e1 e2
      right
      rw [e1]
      rfl
 refine wpList_plain hgd fun K' hK' => ?_
 unfold Oper.wp execOp
 simp only [ho, resolve, invoke, builtin, Sem.run_bind, Sem.run_pure, Result.andThen_ok, List.map_toArray, List.map_cons, List.map_nil, hs, hx, hr]
 refine hK' _ _ (h v' w' ?_ hgr hblk)
 unfold OwnR
 rw [List.length_append, List.flatMap_append, hm]
 exact hown'
theorem grown_below {w w' : World} {base : Nat} {v : Value} (h : OwnR K c e base w v l) (hg : w.grownBy w' v.ownBlock) (hb : base <= w.heap.size) : Below base w w' :=
 ⟨hg.os, hg.tape, hg.output, hg.size, fun k hk => hg.block k (by omega) (fun q => by have := (World.ownsRow.lt h k q.symm).1; omega)⟩
end Go.Proofs.Ytmcjklicepaiaaa
