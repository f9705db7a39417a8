/-
  Texts of this claim laid together: New Ints Ints2 Uni Row.
-/
import Derived.Test.YtmcjklicepaiaaaProg
import Derived.Test.YtmcjklicepaiaaaPk01
import Derived.Deep.QuietTactic
import Derived.BigQuiet
import Derived.OwnWalk
import Derived.Laws.OwnMore
import Derived.WalkSmall
namespace Go.Proofs.Ytmcjklicepaiaaa
set_option linter.unusedVariables false
set_option linter.unusedSimpArgs false

theorem nodup_app {p q : List Nat} (h1 : p.Nodup) (h2 : q.Nodup) (h : ∀ b, b ∈ p → b ∉ q) : (p ++ q).Nodup :=
  List.nodup_append.2 ⟨h1, h2, fun a ha b hb e => h a ha (e ▸ hb)⟩
theorem Free.app {p q : List Nat} {w : World} (h1 : Free p w) (h2 : Free q w) : Free (p ++ q) w := fun b hb => (List.mem_append.1 hb).elim (h1 b) (h2 b)
theorem all_app {p q : List Nat} {T : Nat → Prop} (h1 : ∀ b, b ∈ p → T b) (h2 : ∀ b, b ∈ q → T b) : ∀ b, b ∈ p ++ q → T b := fun b hb => (List.mem_append.1 hb).elim (h1 b) (h2 b)
end Go.Proofs.Ytmcjklicepaiaaa

namespace Go.Proofs.Ytmcjklicepaiaaa
set_option linter.unusedVariables false
set_option linter.unusedSimpArgs false
open Go.RowKit

end Go.Proofs.Ytmcjklicepaiaaa

namespace Go.Proofs.Ytmcjklicepaiaaa
set_option linter.unusedVariables false
set_option linter.unusedSimpArgs false
open Go.RowKit

theorem infoInt : (Try.prog.info? 3).map (fun i => (i.zero, i.size, i.bytes)) = some (some (.int .i64 0), 1, 8) := by kernel_rfl

/-- the first k taken over, the others still nought -/
def part (l : List Int) (k : Nat) : List Value := (l.take k).map (Value.int .i64) ++ List.replicate (l.length - k) (.int .i64 0)
theorem part_len (l : List Int) (k : Nat) (h : k ≤ l.length) : (part l k).length = l.length := by simp [part]; omega
theorem part_zero (l : List Int) : part l 0 = List.replicate l.length (.int .i64 0) := by simp [part]
theorem part_all (l : List Int) (k : Nat) (h : l.length ≤ k) : part l k = l.map (Value.int .i64) := by simp [part, List.take_of_length_le h]; omega
theorem part_set (l : List Int) (k : Nat) (h : k < l.length) : (part l k).set k (.int .i64 l[k]) = part l (k + 1) := by
  have e : l.length - k = (l.length - (k + 1)) + 1 := by omega
  unfold part
  rw [List.set_append_right _ _ (by simp; omega), List.take_succ_eq_append_getElem h, e, List.replicate_succ]
  simp only [List.length_map, List.length_take, Nat.min_eq_left (Nat.le_of_lt h), Nat.sub_self, List.set_cons_zero, List.map_append, List.map_cons, List.map_nil, List.append_assoc, List.singleton_append]

/-- k, k + 1, .. -/
def marks (k : Int) (n : Nat) : List Int := (List.range n).map fun (i : Nat) => k + (i : Int)
theorem marks_len (k : Int) (n : Nat) : (marks k n).length = n := by simp [marks]
def mixed (l : List Int) (k : Int) (i : Nat) : List Int := marks k i ++ l.drop i
theorem mixed_len (l : List Int) (k : Int) (i : Nat) (h : i ≤ l.length) : (mixed l k i).length = l.length := by simp [mixed, marks]; omega
theorem mixed_zero (l : List Int) (k : Int) : mixed l k 0 = l := by simp [mixed, marks]
theorem mixed_all (l : List Int) (k : Int) (i : Nat) (h : l.length = i) : mixed l k i = marks k l.length := by simp [mixed, h]
theorem mixed_set (l : List Int) (k : Int) (i : Nat) (h : i < l.length) : (mixed l k i).set i (k + i) = mixed l k (i + 1) := by
  unfold mixed
  have e : marks k (i + 1) = marks k i ++ [k + (i : Int)] := by simp [marks, List.range_succ]
  rw [List.set_append_right _ _ (by simp [marks]), List.drop_eq_getElem_cons h, marks_len, Nat.sub_self, List.set_cons_zero, e, List.append_assoc]
  rfl
theorem marks_take (k : Int) (n i : Nat) (h : i ≤ n) : (marks k n).take i = marks k i := by
  simp [marks, List.take_range, Nat.min_eq_left h, ← List.map_take]
theorem marks_at (k : Int) (n i : Nat) (h : i < n) : (marks k n)[i]'(by rw [marks_len]; exact h) = k + i := by simp [marks]

/-- what 'held' returns -/
def heldR (l : List Int) (k : Int) : Int := if l = marks k l.length then k + l.length else -1

end Go.Proofs.Ytmcjklicepaiaaa

namespace Go.Proofs.Ytmcjklicepaiaaa
set_option linter.unusedVariables false
set_option linter.unusedSimpArgs false
open Go.RowKit

/-- What sz.. returns: what is left, or something below nought; where it is not, what was measured is small. -/
def SzP (left : Int) (S : Prop) (w : World) (e : Ending) (w' : World) : Prop := ∃ z : Int, e = .returned (.int .i64 z) ∧ z ≤ left ∧ (0 ≤ z → S) ∧ Below w.heap.size w w'
theorem SzP.neg {left : Int} {S : Prop} {w w' : World} (h0 : 0 ≤ left) (hb : Below w.heap.size w w') : SzP left S w (.returned (.int .i64 (-1))) w' := ⟨-1, rfl, by omega, fun h => absurd h (by omega), hb⟩
theorem SzP.pos {left z : Int} {S : Prop} {w w' : World} (hz : z ≤ left) (hS : S) (hb : Below w.heap.size w w') : SzP left S w (.returned (.int .i64 z)) w' := ⟨z, rfl, hz, fun _ => hS, hb⟩
theorem SzP.exact {left : Int} {n : Nat} {S : Prop} {w w' : World} {e : Ending} (h0 : 0 ≤ left) (h1 : left ≤ 1048576) (he : e = .returned (.int .i64 (szR left n))) (hS : n ≤ 1048576 → S) (hb : Below w.heap.size w w') : SzP left S w e w' := by
  refine ⟨_, he, ?_, ?_, hb⟩
  · unfold szR; split <;> omega
  · intro h
    refine hS ?_
    unfold szR at h; split at h <;> omega

def sm_ints (l : List Int) : Prop := l.length ≤ 1048576

/-! ### A row that is filled -/

/-- cells stored one behind the other -/
def putCells (g : Nat) : World → Nat → List Value → World
  | w, _, [] => w
  | w, i, c :: cs => putCells g (w.setCell ⟨g, i, none⟩ c) (i + 1) cs

theorem putCells_below {g B : Nat} {a : World} (hg : B ≤ g) (cs : List Value) : ∀ (w : World) (i : Nat), Below B a w → Below B a (putCells g w i cs) := by
  induction cs with
  | nil => intro w i h; exact h
  | cons c cs ih => intro w i h; exact ih _ _ (h.setCell (p := ⟨g, i, none⟩) hg _)
theorem putCells_block {g b : Nat} (hg : b ≠ g) (cs : List Value) : ∀ (w : World) (i : Nat), (putCells g w i cs).heap[b]? = w.heap[b]? := by
  induction cs with
  | nil => intro w i; rfl
  | cons c cs ih => intro w i; rw [putCells, ih]; exact Below.heap_setCell _ _ _ _ hg
theorem putCells_size {g : Nat} (cs : List Value) : ∀ (w : World) (i : Nat), (putCells g w i cs).heap.size = w.heap.size := by
  induction cs with
  | nil => intro w i; rfl
  | cons c cs ih => intro w i; rw [putCells, ih]; simp
theorem putCells_owns {base g n cap size : Nat} {e : TypeId} (cs : List Value) : ∀ (w : World) (i : Nat) (xs : List Value), w.ownsRow base e size (.slice (some ⟨g, 0, none⟩) n cap) n xs → (putCells g w i cs).ownsRow base e size (.slice (some ⟨g, 0, none⟩) n cap) n (putRow xs i cs) := by
  induction cs with
  | nil => intro w i xs h; exact h
  | cons c cs ih => intro w i xs h; exact ih _ _ _ (h.stored i c).1

/-- The first k rows of a row of the call's own read as the first k of the list; what holds them is new. -/
def Part {α : Type} (K : Nat) (R : Pr α) (e : TypeId) (g n : Nat) (w : World) (l : List α) (k : Nat) : Prop :=
  ∃ (xs : List Value) (fps : List (List Nat)), w.ownsRow g e K (.slice (some ⟨g, 0, none⟩) n n) n xs ∧ fps.length = k ∧
    (∀ i (h : i < l.length) (h' : i < fps.length), ∃ cs, R w l[i] cs fps[i] ∧ ∀ j (hj : j < cs.length), xs[i * K + j]? = some cs[j]) ∧
    (∀ b, b ∈ fps.flatten → g < b ∧ b < w.heap.size) ∧ fps.flatten.Nodup ∧ Free fps.flatten w

theorem Part.start {α : Type} {K : Nat} {R : Pr α} {e : TypeId} {g n : Nat} {w : World} {l : List α} {xs : List Value} (h : w.ownsRow g e K (.slice (some ⟨g, 0, none⟩) n n) n xs) : Part K R e g n w l 0 :=
  ⟨xs, [], h, rfl, fun i _ h' => absurd h' (by simp), by simp, by simp, fun b hb => by simp at hb⟩

theorem Part.below {α : Type} {K : Nat} {R : Pr α} (F : Fits K R) {e : TypeId} {g n : Nat} {w w' : World} {l : List α} {k : Nat} (hk : k ≤ l.length) (h : Part K R e g n w l k) (hb : Below w.heap.size w w') : Part K R e g n w' l k := by
  obtain ⟨xs, fps, h1, h2, h3, h4, h5, h6⟩ := h
  refine ⟨xs, fps, h1.kept (row := none) ⟨hb.os, hb.tape, hb.output, hb.size, fun q hq _ => hb.block q hq⟩ (.inr (by simp [Value.ownBlock])), h2, fun i h h' => ?_, fun b hb' => ⟨(h4 b hb').1, by have := (h4 b hb').2; have := hb.size; omega⟩, h5, h6.below (fun b hb' => (h4 b hb').2) hb⟩
  obtain ⟨cs, hR, hc⟩ := h3 i h h'
  exact ⟨cs, F.below hR hb, hc⟩

theorem Part.lt {α : Type} {K : Nat} {R : Pr α} {e : TypeId} {g n : Nat} {w : World} {l : List α} {k : Nat} (h : Part K R e g n w l k) : g < w.heap.size := by
  obtain ⟨xs, fps, h1, _⟩ := h
  exact (h1.lt g rfl).2

theorem Part.there {α : Type} {K : Nat} {R : Pr α} {e : TypeId} {g n : Nat} {w : World} {l : List α} {k : Nat} (h : Part K R e g n w l k) (j : Nat) (hj : j < n * K) : ∃ x, w.cell? ⟨g, j, none⟩ = some x := by
  obtain ⟨xs, fps, h1, _⟩ := h
  rw [h1.cellAt j hj]
  exact ⟨_, List.getElem?_eq_getElem (by rw [h1.1]; exact hj)⟩
theorem Part.free {α : Type} {K : Nat} {R : Pr α} {e : TypeId} {g n : Nat} {w : World} {l : List α} {k : Nat} (h : Part K R e g n w l k) (j : Nat) : w.frozen? ⟨g, j, none⟩ = false := by
  obtain ⟨xs, fps, h1, _⟩ := h
  exact h1.frozenAt j

theorem Part.step {α : Type} {K : Nat} {R : Pr α} (F : Fits K R) {e : TypeId} {g n : Nat} {w w' : World} {l : List α} {k : Nat} {cs : List Value} {fp : List Nat} (h : Part K R e g n w l k) (hn : l.length = n) (hk : k < l.length) (hb : Below w.heap.size w w') (hR : R w' l[k] cs fp) (hN : New fp w w') :
    Part K R e g n (putCells g w' (k * K) cs) l (k + 1) := by
  obtain ⟨xs, fps, h10, h2, h30, h40, h5, h60⟩ := h
  have h1 := h10.kept (row := none) (w' := w') ⟨hb.os, hb.tape, hb.output, hb.size, fun q hq _ => hb.block q hq⟩ (.inr (by simp [Value.ownBlock]))
  have h6 := h60.below (fun b hb' => (h40 b hb').2) hb
  have h3 : ∀ i (h : i < l.length) (h' : i < fps.length), ∃ cs, R w' l[i] cs fps[i] ∧ ∀ j (hj : j < cs.length), xs[i * K + j]? = some cs[j] := fun i h h' => by
    obtain ⟨cs, hR, hc⟩ := h30 i h h'
    exact ⟨cs, F.below hR hb, hc⟩
  have h4 : ∀ b, b ∈ fps.flatten → g < b ∧ b < w'.heap.size := fun b hb' => ⟨(h40 b hb').1, by have := (h40 b hb').2; have := hb.size; omega⟩
  have hlen := F.len hR
  have hglt : g < w.heap.size := (h10.lt g rfl).2
  have hnew : ∀ b, b ∈ fp → g < b ∧ b < w'.heap.size := fun b hb' => ⟨by have := hN.lo b hb'; omega, F.lt hR b hb'⟩
  have hsm : ∀ fq : List Nat, (∀ b, b ∈ fq → g < b) → Same fq w' (putCells g w' (k * K) cs) := fun fq hq b hb' => putCells_block (by have := hq b hb'; omega) _ _ _
  refine ⟨putRow xs (k * K) cs, fps ++ [fp], putCells_owns cs _ _ _ h1, by simp [h2], ?_, ?_, ?_, ?_⟩
  · intro i h h'
    have hx := h1.1
    have hkK : (k + 1) * K ≤ n * K := Nat.mul_le_mul_right K (by omega)
    rw [Nat.succ_mul] at hkK
    by_cases hik : i < k
    · have hi' : i < fps.length := by omega
      obtain ⟨cs', hR', hc'⟩ := h3 i h hi'
      refine ⟨cs', ?_, fun j hj => ?_⟩
      · rw [List.getElem_append_left hi']
        exact F.same hR' (hsm _ fun b hb' => (h4 b (List.mem_flatten.2 ⟨_, List.getElem_mem hi', hb'⟩)).1) (by rw [putCells_size]; exact Nat.le_refl _)
      · have hl' := F.len hR'
        have h1' : (i + 1) * K ≤ k * K := Nat.mul_le_mul_right K (by omega)
        rw [Nat.succ_mul] at h1'
        rw [putRow_out _ _ _ _ (.inl (by omega))]
        exact hc' j hj
    · have hi' : i = k := by simp [h2] at h'; omega
      subst hi'
      refine ⟨cs, ?_, fun j hj => putRow_in _ _ _ _ hj (by omega)⟩
      rw [List.getElem_append_right (by omega)]
      simp only [h2, Nat.sub_self, List.getElem_cons_zero]
      exact F.same hR (hsm _ fun b hb' => (hnew b hb').1) (by rw [putCells_size]; exact Nat.le_refl _)
  · intro b hb'
    rw [putCells_size]
    rw [List.flatten_append, List.mem_append] at hb'
    rcases hb' with hb' | hb'
    · exact h4 b hb'
    · exact hnew b (by simpa using hb')
  · rw [List.flatten_append]
    refine nodup_app h5 (by simpa using hN.once) fun b hb1 hb2 => ?_
    have hb3 : b ∈ fp := by simpa using hb2
    have := hN.lo b hb3
    have := (h40 b hb1).2
    omega
  · rw [List.flatten_append]
    refine (h6.same (hsm _ fun b hb' => (h4 b hb').1)).app ?_
    have : Free fp (putCells g w' (k * K) cs) := hN.free.same (hsm _ fun b hb' => (hnew b hb').1)
    intro b hb'
    exact this b (by simpa using hb')

theorem Part.done {α : Type} {K : Nat} {R : Pr α} (F : Fits K R) {e : TypeId} {g n : Nat} {w0 w : World} {l : List α} (h : Part K R e g n w l n) (hn : l.length = n) (hm : n ≤ maxLen) (h0 : w0.heap.size ≤ g) :
    ∃ fp, SlR K R w l (.slice (some ⟨g, 0, none⟩) n n) fp ∧ New fp w0 w := by
  obtain ⟨xs, fps, h1, h2, h3, h4, h5, h6⟩ := h
  refine ⟨g :: fps.flatten, ⟨_, n, n, rfl, hn, Nat.le_refl _, hm, .inr ⟨g, 0, fps, rfl, (h1.lt g rfl).2, rfl, by omega, fun i h h' => ?_⟩⟩, ⟨fun b hb => ?_, ?_, fun b hb o => ?_⟩⟩
  · obtain ⟨cs, hR, hc⟩ := h3 i h h'
    refine ⟨cs, hR, fun j hj => ?_⟩
    have hl := F.len hR
    have hkK : (i + 1) * K ≤ n * K := Nat.mul_le_mul_right K (by omega)
    rw [Nat.succ_mul] at hkK
    rw [Nat.zero_add, h1.cellAt _ (by omega)]
    exact hc j hj
  · rcases List.mem_cons.1 hb with rfl | hb
    · exact h0
    · have := (h4 b hb).1; omega
  · exact List.nodup_cons.2 ⟨fun hb => by have := (h4 g hb).1; omega, h5⟩
  · rcases List.mem_cons.1 hb with rfl | hb
    · exact h1.frozenAt o
    · exact h6 b hb o

end Go.Proofs.Ytmcjklicepaiaaa

namespace Go.Proofs.Ytmcjklicepaiaaa
set_option linter.unusedVariables false
set_option linter.unusedSimpArgs false
open Go.RowKit

theorem flat_len {α : Type} {K : Nat} {c : α → List Value} (hk : ∀ x, (c x).length = K) (l : List α) : (l.flatMap c).length = l.length * K := by
  induction l with
  | nil => simp
  | cons x l ih => rw [List.flatMap_cons, List.length_append, ih, hk, List.length_cons, Nat.succ_mul, Nat.add_comm]
theorem flat_at {α : Type} {K : Nat} {c : α → List Value} (hk : ∀ x, (c x).length = K) (l : List α) : ∀ i (hi : i < l.length) j (hj : j < (c l[i]).length), (l.flatMap c)[i * K + j]? = some (c l[i])[j] := by
  induction l with
  | nil => intro i hi; simp at hi
  | cons x l ih =>
    intro i hi j hj
    rw [List.flatMap_cons]
    cases i with
    | zero =>
      simp only [List.getElem_cons_zero] at hj ⊢
      rw [Nat.zero_mul, Nat.zero_add, List.getElem?_append_left (by simpa using hj)]
      exact List.getElem?_eq_getElem _
    | succ i =>
      simp only [List.getElem_cons_succ] at hj ⊢
      rw [List.getElem?_append_right (by rw [hk, Nat.succ_mul]; omega), hk, Nat.succ_mul, show i * K + K + j - K = i * K + j by omega]
      exact ih i (by simpa using hi) j hj

theorem SlR.clip {α : Type} {k : Nat} {R : Pr α} {w : World} {l : List α} {a : Option Addr} {n c : Nat} {fp : List Nat} (h : SlR k R w l (.slice a n c) fp) : SlR k R w l (.slice a n n) fp := by
  obtain ⟨a', n', cap, e, hn, hcap, hcm, hr⟩ := h
  simp only [Value.slice.injEq] at e
  obtain ⟨rfl, rfl, rfl⟩ := e
  exact ⟨a, n, n, rfl, hn, Nat.le_refl _, by omega, hr⟩

theorem Chg.under {fp : List Nat} {a b : World} {B : Nat} (h : Chg fp a b) (hB : B ≤ a.heap.size) (hl : ∀ k, k ∈ fp → B ≤ k) : Below B a b :=
  ⟨h.os, h.tape, h.output, h.size, fun k hk => h.block k (by omega) (fun hm => by have := hl k hm; omega)⟩

theorem putCells_out {g : Nat} (cs : List Value) : ∀ (w : World) (i q : Nat), (q < i ∨ i + cs.length ≤ q) → (putCells g w i cs).cell? ⟨g, q, none⟩ = w.cell? ⟨g, q, none⟩ := by
  induction cs with
  | nil => intro w i q _; rfl
  | cons c cs ih =>
    intro w i q h
    simp only [List.length_cons] at h
    rw [putCells, ih _ _ _ (by omega)]
    exact World.cell?_setCell_other _ _ _ _ (fun e => by injection e; omega)
theorem putCells_in {g : Nat} (cs : List Value) : ∀ (w : World) (i j : Nat) (hj : j < cs.length), (∀ q, q < cs.length → ∃ x, w.cell? ⟨g, i + q, none⟩ = some x) → (putCells g w i cs).cell? ⟨g, i + j, none⟩ = some cs[j] := by
  induction cs with
  | nil => intro w i j hj _; simp at hj
  | cons c cs ih =>
    intro w i j hj h
    simp only [List.length_cons] at hj h
    cases j with
    | zero =>
      rw [putCells, putCells_out _ _ _ _ (.inl (by omega))]
      obtain ⟨x, hx⟩ := h 0 (by omega)
      exact World.cell?_setCell_same _ _ _ hx
    | succ j =>
      rw [putCells, show i + (j + 1) = i + 1 + j by omega]
      refine ih _ _ _ (by omega) fun q hq => ?_
      obtain ⟨x, hx⟩ := h (q + 1) (by omega)
      refine ⟨x, (World.cell?_setCell_other _ _ _ _ (fun e => by injection e; omega)).trans ?_⟩
      rw [show i + 1 + q = i + (q + 1) by omega]; exact hx
theorem putCells_free {g : Nat} {fp : List Nat} (cs : List Value) : ∀ (w : World) (i : Nat), Free fp w → Free fp (putCells g w i cs) := by
  induction cs with
  | nil => intro w i h; exact h
  | cons c cs ih => intro w i h; exact ih _ _ (h.setCell _ _)
theorem putCells_chg {g : Nat} {fp : List Nat} (hg : g ∈ fp) (cs : List Value) (w : World) (i : Nat) : Chg fp w (putCells g w i cs) := by
  induction cs generalizing w i with
  | nil => exact Chg.refl _ _
  | cons c cs ih =>
    have h1 : Chg fp w (w.setCell ⟨g, i, none⟩ c) := ⟨rfl, rfl, rfl, by simp, fun k _ hk => Below.heap_setCell _ _ _ _ (fun e => hk (by rw [e]; exact hg))⟩
    exact h1.trans' (ih _ _)

/-- A flat element written anew. -/
theorem SlR.put {α : Type} {K : Nat} {c : α → List Value} (hk : ∀ x, (c x).length = K) {w : World} {l : List α} {a : Option Addr} {n cap b off : Nat} {fp : List Nat} (h : SlR K (fun _ x cs fp => cs = c x ∧ fp = []) w l (.slice a n cap) fp) (ha : a = some ⟨b, off, none⟩) {i : Nat} (hi : i < n) (x : α) :
    SlR K (fun _ x cs fp => cs = c x ∧ fp = []) (putCells b w (off + i * K) (c x)) (l.set i x) (.slice a n cap) fp ∧ Chg fp w (putCells b w (off + i * K) (c x)) ∧ b ∈ fp := by
  obtain ⟨a', n', cap', e, hn, hcap, hcm, ⟨rfl, rfl⟩ | ⟨b', off', fps, rfl, hb, rfl, hf, hc⟩⟩ := h
  · simp only [Value.slice.injEq] at e
    obtain ⟨_, rfl, _⟩ := e
    simp at hn
    omega
  · simp only [Value.slice.injEq] at e
    obtain ⟨e1, rfl, rfl⟩ := e
    subst ha
    simp only [Option.some.injEq, Addr.mk.injEq, and_true] at e1
    obtain ⟨rfl, rfl⟩ := e1
    refine ⟨⟨_, n, cap, rfl, by simpa using hn, hcap, hcm, .inr ⟨b, off, fps, rfl, by rw [putCells_size]; exact hb, rfl, by simpa using hf, fun j h h' => ?_⟩⟩, putCells_chg (List.mem_cons_self ..) _ _ _, List.mem_cons_self ..⟩
    have hj : j < l.length := by simpa using h
    obtain ⟨cs, ⟨rfl, hfj⟩, hcell⟩ := hc j hj h'
    refine ⟨c ((l.set i x)[j]), ⟨rfl, hfj⟩, fun q hq => ?_⟩
    have hqK : q < K := by rw [hk] at hq; exact hq
    by_cases hji : i = j
    · subst hji
      have := putCells_in (g := b) (c x) w (off + i * K) q (by rw [hk]; exact hqK) (fun q' hq' => ⟨_, hcell q' (by rw [hk] at hq' ⊢; exact hq')⟩)
      rw [this]
      simp
    · rw [putCells_out _ _ _ _ (by
        rw [hk]
        rcases Nat.lt_or_gt_of_ne hji with h1 | h1
        · right; have : (i + 1) * K ≤ j * K := Nat.mul_le_mul_right K (by omega); rw [Nat.succ_mul] at this; omega
        · left; have : (j + 1) * K ≤ i * K := Nat.mul_le_mul_right K (by omega); rw [Nat.succ_mul] at this; omega)]
      rw [hcell q (by rw [hk]; exact hqK)]
      simp [hji]

theorem nodup_disj {p q : List Nat} (h : (p ++ q).Nodup) : ∀ b, b ∈ p → b ∉ q := fun b hb hb' => (List.nodup_append.1 h).2.2 b hb b hb' rfl

theorem nodup_left {p q : List Nat} (h : (p ++ q).Nodup) : p.Nodup := (List.nodup_append.1 h).1
theorem nodup_right {p q : List Nat} (h : (p ++ q).Nodup) : q.Nodup := (List.nodup_append.1 h).2.1

end Go.Proofs.Ytmcjklicepaiaaa
