/-
  A map of the call's own, as a function from keys: of numbers, and of marks. No program in sight.
-/
import Derived.Test.YtmmojgopeaelcaaBase
import Derived.Maps.OwnSet
import Derived.Maps.OwnOps
namespace Go.Proofs.Ytmmojgopeaelcaa
set_option linter.unusedVariables false
set_option linter.unusedSimpArgs false
open Go.RowKit Go.Maps

variable {P : Program} {K E T : TypeId} {β : Type} {val : β → Value} {b n : Nat} {w w' : World}

/-- block b is a map of at most n entries that holds these numbers -/
def IntM (P : Program) (K E : TypeId) (val : β → Value) (b n : Nat) (w : World) (f : β → Option Int) : Prop :=
  ∃ D : DataW Unit, w.ownsMap P K (plainElem P E) b n D ∧ ∀ x l, keyOf P K (val x) = some l → has D l = (f x).isSome ∧ D.atKey l (.lit (.int .i64 0)) = .lit (.int .i64 ((f x).getD 0))
/-- block b is a map of at most n entries, c of them, in which these are marked, and no other -/
def BoolM (P : Program) (K E : TypeId) (val : β → Value) (b n : Nat) (w : World) (f : β → Bool) (c : Nat) : Prop :=
  ∃ D : DataW Unit, w.ownsMap P K (plainElem P E) b n D ∧ size D = c ∧ ∀ x l, keyOf P K (val x) = some l → has D l = f x ∧ D.atKey l (.lit (.bool false)) = .lit (.bool (f x))

theorem has_nil (l : Lit) : has (.map [] : DataW Unit) l = false := rfl

theorem IntM.made (w : World) : IntM P K E val w.heap.size 0 (w.alloc (.map #[] 0)) (fun _ => none) :=
  ⟨_, World.ownsMap_made w P K _, fun x l _ => ⟨rfl, atKey_of_not_has (has_nil l) _⟩⟩
theorem BoolM.made (w : World) : BoolM P K E val w.heap.size 0 (w.alloc (.map #[] 0)) (fun _ => false) 0 :=
  ⟨_, World.ownsMap_made w P K _, rfl, fun x l _ => ⟨rfl, atKey_of_not_has (has_nil l) _⟩⟩
theorem IntM.kept {f : β → Option Int} (h : IntM P K E val b n w f) {row : Option Nat} (hg : w.grownBy w' row) (hne : some b ≠ row) : IntM P K E val b n w' f := by
  obtain ⟨D, h1, h2⟩ := h
  exact ⟨D, h1.kept hg hne, h2⟩
theorem BoolM.kept {f : β → Bool} {c : Nat} (h : BoolM P K E val b n w f c) {row : Option Nat} (hg : w.grownBy w' row) (hne : some b ≠ row) : BoolM P K E val b n w' f c := by
  obtain ⟨D, h1, h2⟩ := h
  exact ⟨D, h1.kept hg hne, h2⟩
theorem grown_of_below (hb : Below w.heap.size w w') : w.grownBy w' none := ⟨hb.os, hb.tape, hb.output, hb.size, fun k hk _ => hb.block k hk⟩
theorem IntM.below {f : β → Option Int} (h : IntM P K E val b n w f) (hb : Below w.heap.size w w') : IntM P K E val b n w' f := h.kept (grown_of_below hb) (by simp)
theorem BoolM.below {f : β → Bool} {c : Nat} (h : BoolM P K E val b n w f c) (hb : Below w.heap.size w w') : BoolM P K E val b n w' f c := h.kept (grown_of_below hb) (by simp)
theorem IntM.lt {f : β → Option Int} (h : IntM P K E val b n w f) : b < w.heap.size := by obtain ⟨D, h1, _⟩ := h; exact h1.lt
theorem BoolM.lt {f : β → Bool} {c : Nat} (h : BoolM P K E val b n w f c) : b < w.heap.size := by obtain ⟨D, h1, _⟩ := h; exact h1.lt
theorem IntM.same {f : β → Option Int} (h : IntM P K E val b n w f) (hb : w'.heap[b]? = w.heap[b]?) : IntM P K E val b n w' f := by
  obtain ⟨D, ⟨es, clock, h1, h3⟩, h2⟩ := h
  exact ⟨D, ⟨es, clock, hb.trans h1, h3⟩, h2⟩
theorem BoolM.same {f : β → Bool} {c : Nat} (h : BoolM P K E val b n w f c) (hb : w'.heap[b]? = w.heap[b]?) : BoolM P K E val b n w' f c := by
  obtain ⟨D, ⟨es, clock, h1, h3⟩, h2⟩ := h
  exact ⟨D, ⟨es, clock, hb.trans h1, h3⟩, h2⟩

theorem plainElem_bool_inv {H : Type} (he : P.underlying E = some .bool) {v : Value} {z : DataW H × List MemPlace} (h : plainElem P E v = some z) : ∃ x, v = .bool x ∧ z = (.lit (.bool x), []) := by
  unfold plainElem at h
  rw [he] at h
  split at h
  · cases h; exact ⟨_, rfl, rfl⟩
  · rename_i e; cases e
  · rename_i e; cases e
  · cases h

section
variable {ops : Array Oper} {rest : List Oper} {o : Oper} {a : Act} {Q : Exit → Act → World → Prop}

/-- 'v, ok := m[k]' -/
theorem wpList_lookM_ok {f : β → Option Int} (hg : o.guard = none) (m x : Operand) (t : TypeId) (hop : o.op = Op.lookup t m x true) (L : Keyed P K) (ht : P.underlying t = some (.map K E)) (he : P.underlying E = some (.int .i64)) (hz : (zeroValue E).run P w = .ok (.int .i64 0) w)
    (hm : a.eval m = .map (some b)) (hown : IntM P K E val b n w f) (y : β) (l : Lit) (hx : a.eval x = val y) (hkey : keyOf P K (val y) = some l)
    (hK : wpList P ops Q rest (a.put o.dst (.tuple #[.int .i64 ((f y).getD 0), .bool (f y).isSome])) w) : wpList P ops Q (o :: rest) a w := by
  obtain ⟨D, h1, h2⟩ := hown
  obtain ⟨h3, h4⟩ := h2 y l hkey
  refine wpList_lookup_own_ok_int w hg m x t hop K E .i64 L ht he hz b n D hm h1 _ l hx hkey fun c hc _ => ?_
  rw [h4] at hc
  simp only [DataW.lit.injEq, Lit.int.injEq, true_and] at hc
  rw [← hc, h3]
  exact hK
/-- 'm[k]', of numbers -/
theorem wpList_lookM {f : β → Option Int} (hg : o.guard = none) (m x : Operand) (t : TypeId) (hop : o.op = Op.lookup t m x false) (L : Keyed P K) (ht : P.underlying t = some (.map K E)) (he : P.underlying E = some (.int .i64)) (hz : (zeroValue E).run P w = .ok (.int .i64 0) w)
    (hm : a.eval m = .map (some b)) (hown : IntM P K E val b n w f) (y : β) (l : Lit) (hx : a.eval x = val y) (hkey : keyOf P K (val y) = some l)
    (hK : wpList P ops Q rest (a.put o.dst (.int .i64 ((f y).getD 0))) w) : wpList P ops Q (o :: rest) a w := by
  obtain ⟨D, h1, h2⟩ := hown
  obtain ⟨h3, h4⟩ := h2 y l hkey
  refine wpList_lookup_own_int w hg m x t hop K E .i64 L ht he hz b n D hm h1 _ l hx hkey fun c hc _ => ?_
  rw [h4] at hc
  simp only [DataW.lit.injEq, Lit.int.injEq, true_and] at hc
  rw [← hc]
  exact hK
/-- 'm[k]', of marks: as an equation -/
theorem BoolM.look {f : β → Bool} {c : Nat} (hown : BoolM P K E val b n w f c) (t : TypeId) (L : Keyed P K) (ht : P.underlying t = some (.map K E)) (he : P.underlying E = some .bool) (hz : (zeroValue E).run P w = .ok (.bool false) w) (y : β) (l : Lit) (hkey : keyOf P K (val y) = some l) :
    (Instr.lookup t (.map (some b)) (val y) false).run P w = .ok (.bool (f y)) w := by
  obtain ⟨D, h1, _, h2⟩ := hown
  obtain ⟨h3, h4⟩ := h2 y l hkey
  obtain ⟨v, ps, hrun, hv⟩ := h1.lookup L ht hz (plainElem_bool he false) hkey
  obtain ⟨q, rfl, hq⟩ := plainElem_bool_inv he hv
  rw [h4] at hq
  simp only [Prod.mk.injEq, DataW.lit.injEq, Lit.bool.injEq] at hq
  rw [hrun, hq.1]
theorem wpList_lookB {f : β → Bool} {c : Nat} (hg : o.guard = none) (m x : Operand) (t : TypeId) (hop : o.op = Op.lookup t m x false) (L : Keyed P K) (ht : P.underlying t = some (.map K E)) (he : P.underlying E = some .bool) (hz : (zeroValue E).run P w = .ok (.bool false) w)
    (hm : a.eval m = .map (some b)) (hown : BoolM P K E val b n w f c) (y : β) (l : Lit) (hx : a.eval x = val y) (hkey : keyOf P K (val y) = some l)
    (hK : wpList P ops Q rest (a.put o.dst (.bool (f y))) w) : wpList P ops Q (o :: rest) a w := by
  refine wpList_plain hg fun K' hK' => ?_
  have hrun := hown.look t L ht he hz y l hkey
  unfold Oper.wp
  simp [execOp, hop, hm, hx, hrun, Result.andThen]
  exact hK' _ _ hK
/-- 'm[k] = v', of numbers -/
theorem wpList_setM [DecidableEq β] {f : β → Option Int} (hg : o.guard = none) (m x v : Operand) (t : TypeId) (hop : o.op = Op.mapUpdate t m x v) (L : Keyed P K) (ht : P.underlying t = some (.map K E)) (he : P.underlying E = some (.int .i64)) (hinj : ∀ x y, val x = val y → x = y)
    (hm : a.eval m = .map (some b)) (hown : IntM P K E val b n w f) (hn : n < maxLen) (y : β) (z : Int) (l : Lit) (hx : a.eval x = val y) (hv : a.eval v = .int .i64 z) (hw : (Lit.int .i64 z).wf = true) (hkey : keyOf P K (val y) = some l)
    (hK : ∀ w', IntM P K E val b (n + 1) w' (fun q => if q = y then some z else f q) → w.grownBy w' (some b) → wpList P ops Q rest (a.put o.dst undef) w') : wpList P ops Q (o :: rest) a w := by
  obtain ⟨D, h1, h2⟩ := hown
  refine wpList_mapUpdate_own w hg m x v t hop K E L ht _ b n D hm h1 hn _ _ l hx hv hkey _ [] (plainElem_int he hw) fun w' ho hgr => hK w' ⟨_, ho, fun q lq hq => ?_⟩ hgr
  by_cases e : q = y
  · subst e
    obtain rfl : lq = l := Option.some.inj (hq.symm.trans hkey)
    rw [has_put_same h1.isMap (L.key hkey), atKey_put_same h1.isMap (L.key hkey)]
    simp
  · have hne : lq ≠ l := fun e' => e (hinj _ _ (L.inj (hq.trans (by rw [e'])) hkey))
    rw [has_put_other hne, atKey_put_other hne]
    simp only [if_neg e]
    exact h2 q lq hq
/-- 'm[k] = true', where k was not marked -/
theorem wpList_setB [DecidableEq β] {f : β → Bool} {c : Nat} (hg : o.guard = none) (m x v : Operand) (t : TypeId) (hop : o.op = Op.mapUpdate t m x v) (L : Keyed P K) (ht : P.underlying t = some (.map K E)) (he : P.underlying E = some .bool) (hinj : ∀ x y, val x = val y → x = y)
    (hm : a.eval m = .map (some b)) (hown : BoolM P K E val b n w f c) (hn : n < maxLen) (y : β) (l : Lit) (hf : f y = false) (hx : a.eval x = val y) (hv : a.eval v = .bool true) (hkey : keyOf P K (val y) = some l)
    (hK : ∀ w', BoolM P K E val b (n + 1) w' (fun q => decide (q = y) || f q) (c + 1) → w.grownBy w' (some b) → wpList P ops Q rest (a.put o.dst undef) w') : wpList P ops Q (o :: rest) a w := by
  obtain ⟨D, h1, h0, h2⟩ := hown
  refine wpList_mapUpdate_own w hg m x v t hop K E L ht _ b n D hm h1 hn _ _ l hx hv hkey _ [] (plainElem_bool he true) fun w' ho hgr => hK w' ⟨_, ho, ?_, fun q lq hq => ?_⟩ hgr
  · have h3 := (h2 y l hkey).1
    rw [hf] at h3
    rw [size_put (h1.tidy L), h3, h0]
    rfl
  · by_cases e : q = y
    · subst e
      obtain rfl : lq = l := Option.some.inj (hq.symm.trans hkey)
      rw [has_put_same h1.isMap (L.key hkey), atKey_put_same h1.isMap (L.key hkey)]
      simp
    · have hne : lq ≠ l := fun e' => e (hinj _ _ (L.inj (hq.trans (by rw [e'])) hkey))
      rw [has_put_other hne, atKey_put_other hne]
      simp only [decide_eq_false e, Bool.false_or]
      exact h2 q lq hq
/-- 'len(m)' -/
theorem wpList_lenB {f : β → Bool} {c : Nat} (hg : o.guard = none) (m : Operand) (t : TypeId) (hop : o.op = Op.call { callee := Callee.builtin Builtin.len, args := #[m], argTypes := #[t] }) (ht : P.underlying t = some (.map K E))
    (hm : a.eval m = .map (some b)) (hown : BoolM P K E val b n w f c) (hK : wpList P ops Q rest (a.put o.dst (.int .i64 c)) w) : wpList P ops Q (o :: rest) a w := by
  obtain ⟨D, h1, h0, h2⟩ := hown
  refine wpList_len_own w hg m t hop K E ht _ b n D hm h1 ?_
  rw [h0]
  exact hK
end

end Go.Proofs.Ytmmojgopeaelcaa
