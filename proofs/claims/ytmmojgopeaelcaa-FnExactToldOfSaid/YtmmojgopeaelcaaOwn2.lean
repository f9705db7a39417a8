/-
  Appends to a literal: of nothing, and of a list that is there; a slice of it. No program in sight.
-/
import Derived.Test.YtmmojgopeaelcaaOwn
namespace Go.Proofs.Ytmmojgopeaelcaa
set_option linter.unusedVariables false
set_option linter.unusedSimpArgs false
open Go.RowKit Go.WideShapes

variable {α : Type} {K : Nat} {c : α → List Value} {e : TypeId} {w w' : World} {base : Nat} {v : Value} {l : List α}

theorem own_ne {a b n c m d : Nat} (h : a ≠ b) : (Value.slice (some ⟨a, 0, none⟩) n c).ownBlock ≠ (Value.slice (some ⟨b, 0, none⟩) m d).ownBlock := fun q => h (by simpa [Value.ownBlock] using q)

/-- 'append(out, list...)' of no element: nothing turns. -/
theorem wpList_append_no {P : Program} {ops : Array Oper} {rest : List Oper} {o : Oper} {a : Act} {Q : Exit → Act → World → Prop} {n cap c2 : Nat} {A : Option Addr} {B : Addr}
    (hgd : o.guard = none) (s x : Operand) (t e : TypeId) (i : TypeInfo)
    (ho : o.op = .call { callee := .builtin .append, args := #[s, x], argTypes := #[t, t] })
    (ht : P.underlying t = some (.slice e)) (hi : P.info? e = some i)
    (hs : a.eval s = .slice (some B) n cap) (hx : a.eval x = .slice A 0 c2) (hn : n ≤ cap)
    (h : wpList P ops Q rest (a.put o.dst (.slice (some B) n cap)) w) :
    wpList P ops Q (o :: rest) a w := by
  refine wpList_plain hgd fun K' hK' => ?_
  have hr : (Builtin.append_ #[t, t] o.type #[.slice (some B) n cap, .slice A 0 c2]).run P w = .ok (.slice (some B) n cap) w := by
    cases A <;> simp [Builtin.append_, run_underlying ht, sizeOf, typeInfo, hi, Builtin.lenOf, Builtin.firstCells, hn, storeCells, loadCells, loadCellsFrom]
  unfold Oper.wp execOp
  simp only [ho, resolve, invoke, builtin, Sem.run_bind, Sem.run_pure, Result.andThen_ok, List.map_toArray, List.map_cons, List.map_nil, hs, hx, hr]
  exact hK' _ _ h

/-- 'append(full, list...)', where the first has no room: a new row; nothing that was there turns. -/
theorem wpList_append_full {P : Program} {ops : Array Oper} {rest : List Oper} {o : Oper} {a : Act} {Q : Exit → Act → World → Prop} {n m c2 : Nat} {olds news : List α} {A B : Addr}
    (hgd : o.guard = none) (s x : Operand) (t e : TypeId) (i : TypeInfo) (z : Value) (bytes : Nat) (hk : ∀ x, (c x).length = K)
    (ho : o.op = .call { callee := .builtin .append, args := #[s, x], argTypes := #[t, t] })
    (ht : P.underlying t = some (.slice e)) (hi : P.info? e = some i) (hz : i.zero = some z) (hsize : i.size = K) (hby : i.bytes = bytes) (hzs : z.cells.size = K) (hb8 : bytes ≤ 128)
    (hs : a.eval s = .slice (some B) n n) (hx : a.eval x = .slice (some A) m c2) (hn : olds.length = n) (hold : ∀ j u, (olds.flatMap c)[j]? = some u → w.cell? (B.add j) = some u) (hm : news.length = m) (h0 : 0 < m) (hnews : ∀ j u, (news.flatMap c)[j]? = some u → w.cell? (A.add j) = some u)
    (hnn : n ≤ 2000000) (hmm : m ≤ 2000000)
    (h : ∀ v' w', OwnR K c e w.heap.size w' v' (olds ++ news) → Below w.heap.size w w' → wpList P ops Q rest (a.put o.dst v') w') :
    wpList P ops Q (o :: rest) a w := by
  have hl : (news.flatMap c).length = m * K := by rw [flat_len hk, hm]
  have hlo : (olds.flatMap c).length = n * K := by rw [flat_len hk, hn]
  subst hsize
  have hmb : (n + m) * i.bytes ≤ 4000000 * 128 := Nat.mul_le_mul (by omega) (by omega)
  have hfit : Builtin.nextslicecap (n + m) n * i.bytes ≤ 281474976710656 := growslice_fits (by omega) (by omega)
  refine wpList_plain hgd fun K' hK' => ?_
  have hr := run_append_grow (P := P) w t o.type e i z ht hi hz B n n (olds.flatMap c) hlo hold A m c2 (news.flatMap c) hl hnews (by omega) (by omega) hfit
  have hge := grownCap_ge w (n + m) n e
  have hcm := grownCap_le_maxLen w (n + m) n e (by unfold maxLen; omega)
  unfold Oper.wp execOp
  simp only [ho, resolve, invoke, builtin, Sem.run_bind, Sem.run_pure, Result.andThen_ok, List.map_toArray, List.map_cons, List.map_nil, hs, hx, hr]
  generalize grownCap w (n + m) n e = G at *
  have hlen : (olds ++ news).length = n + m := by rw [List.length_append, hn, hm]
  have hfl : ((olds ++ news).flatMap c).length = (n + m) * i.size := by rw [flat_len hk, hlen]
  refine hK' _ _ (h _ _ ?_ ?_)
  · unfold OwnR
    rw [hlen]
    refine ⟨hfl, .inr ⟨w.heap.size, G, _, rfl, Nat.le_refl _, heap_alloc_new w.drew _, by omega, hcm, ?_, ?_⟩⟩
    · simp only [Array.size_append, List.size_toArray, size_zeroCells, hzs, hl, hlo, ← Nat.add_mul]
      congr 1
      omega
    · rw [List.flatMap_append] at hfl ⊢
      simp only [Array.toList_append]
      rw [← hfl]
      exact List.take_left
  · exact (Below.refl _ w).drew.alloc (Nat.le_refl _) _

/-- 'append([]T{}, list...)', whatever the list: a row that holds it; nothing that was there turns. -/
theorem wpList_append_lit {P : Program} {ops : Array Oper} {rest : List Oper} {o : Oper} {a : Act} {Q : Exit → Act → World → Prop} {m c2 g : Nat} {news : List α} {A : Option Addr} {fq : List Nat}
    (hgd : o.guard = none) (s x : Operand) (t e : TypeId) (i : TypeInfo) (z : Value) (bytes : Nat) (hk : ∀ x, (c x).length = K)
    (ho : o.op = .call { callee := .builtin .append, args := #[s, x], argTypes := #[t, t] })
    (ht : P.underlying t = some (.slice e)) (hi : P.info? e = some i) (hz : i.zero = some z) (hsize : i.size = K) (hby : i.bytes = bytes) (hzs : z.cells.size = K) (hK0 : 0 < K) (hb8 : bytes ≤ 128)
    (hs : a.eval s = .slice (some ⟨g, 0, none⟩) 0 0) (hx : a.eval x = .slice A m c2) (hown : OwnR K c e base w (.slice (some ⟨g, 0, none⟩) 0 0) []) (hl : SlR K (fun _ x cs fp => cs = c x ∧ fp = []) w news (.slice A m c2) fq) (hbase : base ≤ w.heap.size)
    (hmm : m ≤ 2000000)
    (h : ∀ v' w', OwnR K c e base w' v' news → Below w.heap.size w w' → wpList P ops Q rest (a.put o.dst v') w') :
    wpList P ops Q (o :: rest) a w := by
  have hlen : news.length = m := by
    obtain ⟨a', n', c', e1, hn, _⟩ := hl
    simp only [Value.slice.injEq] at e1
    rw [hn, e1.2.1]
  by_cases h0 : m = 0
  · subst h0
    obtain rfl : news = [] := List.eq_nil_of_length_eq_zero hlen
    exact wpList_append_no hgd s x t e i ho ht hi hs hx (Nat.le_refl _) (h _ _ hown (Below.refl _ _))
  · have hne : news ≠ [] := fun e => h0 (by rw [← hlen, e]; rfl)
    have h2 := hl
    obtain ⟨a', n', c', e1, hn, _, _, ⟨rfl, _⟩ | ⟨b, off, fps, rfl, _⟩⟩ := hl
    · exact absurd rfl hne
    · simp only [Value.slice.injEq] at e1
      obtain ⟨rfl, rfl, rfl⟩ := e1
      exact wpList_append_empty hgd s x t e i z bytes hk ho ht hi hz hsize hby hzs hb8 hs hx hlen (by omega) (SlR.flat_cells hk hK0 h2) hmm (fun v' w' ho' hb' => h v' w' (OwnR.lower ho' hbase) hb')

end Go.Proofs.Ytmmojgopeaelcaa
