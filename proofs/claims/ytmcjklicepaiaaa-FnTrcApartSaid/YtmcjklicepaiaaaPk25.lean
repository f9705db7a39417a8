/-
  Texts of this claim laid together: Tr Own2 Clone Facts2.
-/
import Derived.Test.YtmcjklicepaiaaaPk05
import Derived.Test.YtmcjklicepaiaaaPk03
import Derived.Test.YtmcjklicepaiaaaProg
import Derived.OwnWalk
import Derived.KernelRfl
import Derived.WalkSpells
import Derived.WalkSmall
namespace Go.Proofs.Ytmcjklicepaiaaa
set_option linter.unusedVariables false
set_option linter.unusedSimpArgs false
open Go.RowKit Go.WideShapes

/-- an element, its cells, and the blocks of what it holds -/
abbrev Tr (α : Type) (K : Nat) := α × CellsK K × List Nat
def trC {α : Type} {K : Nat} (p : Tr α K) : List Value := p.2.1.1
theorem trC_len {α : Type} {K : Nat} (p : Tr α K) : (trC p).length = K := p.2.1.2
/-- flat, by cells -/
abbrev flatR {α : Type} (c : α → List Value) : Pr α := fun _ x cs fp => cs = c x ∧ fp = []
theorem flatR_fits {α : Type} {K : Nat} {c : α → List Value} (hk : ∀ x, (c x).length = K) : Fits K (flatR c) := ⟨fun h => by rw [h.1, hk], fun h b hb => by rw [h.2] at hb; simp at hb, fun h _ _ => h⟩

variable {α : Type} {K : Nat} {R : Pr α} {w w' : World} {v : Value} {l : List α}

theorem SlR.tr (F : Fits K R) {fp : List Nat} (h : SlR K R w l v fp) : ∃ (L : List (Tr α K)) (fq : List Nat), L.map (·.1) = l ∧ SlR K (flatR trC) w L v fq ∧ (∀ p, p ∈ L → R w p.1 p.2.1.1 p.2.2 ∧ ∀ b, b ∈ p.2.2 → b ∈ fp) ∧ ∀ b, b ∈ fq → b ∈ fp := by
  obtain ⟨a, n, cap, rfl, hn, hcap, hcm, ⟨rfl, rfl⟩ | ⟨b, off, fps, rfl, hb, rfl, hf, hc⟩⟩ := h
  · exact ⟨[], [], rfl, ⟨a, n, cap, rfl, hn, hcap, hcm, .inl ⟨rfl, rfl⟩⟩, fun p hp => by simp at hp, fun b hb => by simp at hb⟩
  · replace hn : l.length = n := hn
    have main : ∀ q, q ≤ l.length → ∃ L : List (Tr α K), L.length = q ∧ L.map (·.1) = l.take q ∧ ∀ i (h : i < L.length) (h1 : i < fps.length), L[i].2.2 = fps[i] ∧ R w L[i].1 L[i].2.1.1 L[i].2.2 ∧ ∀ j (hj : j < (trC L[i]).length), w.cell? ⟨b, off + i * K + j, none⟩ = some (trC L[i])[j] := by
      intro q
      induction q with
      | zero => exact fun _ => ⟨[], rfl, by simp, fun i h => absurd h (by simp)⟩
      | succ q ih =>
        intro hq
        obtain ⟨L, h1, h2, h3⟩ := ih (by omega)
        obtain ⟨cs, hR, hcell⟩ := hc q (by omega) (by omega)
        refine ⟨L ++ [(l[q], ⟨cs, F.len hR⟩, fps[q])], by simp [h1], by rw [List.map_append, h2, List.take_succ_eq_append_getElem (by omega)]; rfl, fun i h h' => ?_⟩
        by_cases hiq : i < q
        · simp only [List.getElem_append_left (by omega : i < L.length)]
          exact h3 i (by omega) h'
        · obtain rfl : i = L.length := by simp [h1] at h; omega
          subst h1
          simp only [List.getElem_append_right (Nat.le_refl _), Nat.sub_self, List.getElem_cons_zero]
          exact ⟨trivial, hR, hcell⟩
    obtain ⟨L, h1, h2, h3⟩ := main l.length (Nat.le_refl _)
    rw [List.take_of_length_le (Nat.le_refl _)] at h2
    refine ⟨L, b :: (List.replicate L.length []).flatten, h2, ⟨_, n, cap, rfl, by omega, hcap, hcm, .inr ⟨b, off, List.replicate L.length [], rfl, hb, rfl, by simp, fun i hi hi' => ⟨trC L[i], ⟨rfl, by simp⟩, (h3 i hi (by omega)).2.2⟩⟩⟩, fun p hp => ?_, fun c hc => ?_⟩
    · obtain ⟨i, hi, rfl⟩ := List.mem_iff_getElem.1 hp
      obtain ⟨e, hR, _⟩ := h3 i hi (by omega)
      refine ⟨hR, fun c hcm => ?_⟩
      rw [e] at hcm
      exact List.mem_cons_of_mem _ (List.mem_flatten.2 ⟨_, List.getElem_mem _, hcm⟩)
    · rcases List.mem_cons.1 hc with rfl | hc
      · exact List.mem_cons_self ..
      · obtain ⟨f, hf1, hf2⟩ := List.mem_flatten.1 hc
        rw [List.eq_of_mem_replicate hf1] at hf2
        simp at hf2

theorem SlR.untr {L : List (Tr α K)} {fq : List Nat} (h : SlR K (flatR trC) w L v fq) (hR : ∀ p, p ∈ L → R w p.1 p.2.1.1 p.2.2) : SlR K R w (L.map (·.1)) v (fq ++ (L.map (·.2.2)).flatten) := by
  obtain ⟨a, n, cap, rfl, hn, hcap, hcm, ⟨rfl, rfl⟩ | ⟨b, off, fps, rfl, hb, rfl, hf, hc⟩⟩ := h
  · exact ⟨a, n, cap, rfl, hn, hcap, hcm, .inl ⟨rfl, rfl⟩⟩
  · have h0 : fps.flatten = [] := by
      rw [List.flatten_eq_nil_iff]
      intro f hf1
      obtain ⟨i, hi, rfl⟩ := List.mem_iff_getElem.1 hf1
      obtain ⟨cs, ⟨_, e⟩, _⟩ := hc i (by omega) hi
      exact e
    refine ⟨_, n, cap, rfl, by simpa using hn, hcap, hcm, .inr ⟨b, off, L.map (·.2.2), rfl, hb, by rw [h0]; rfl, by simp, fun i hi hi' => ?_⟩⟩
    have hiL : i < L.length := by simpa using hi
    obtain ⟨cs, ⟨rfl, _⟩, hcell⟩ := hc i hiL (by omega)
    refine ⟨trC L[i], ?_, hcell⟩
    have := hR L[i] (List.getElem_mem hiL)
    simpa [trC] using this

/-- One cell of a flat element written anew. -/
theorem SlR.put1 {c : α → List Value} (hk : ∀ x, (c x).length = K) {a : Option Addr} {n cap b off : Nat} {fp : List Nat} (h : SlR K (flatR c) w l (.slice a n cap) fp) (ha : a = some ⟨b, off, none⟩) {i : Nat} (hi : i < l.length) {j : Nat} (hj : j < K) (u : Value) (x : α) (hx : c x = (c l[i]).set j u) :
    SlR K (flatR c) (w.setCell ⟨b, off + i * K + j, none⟩ u) (l.set i x) (.slice a n cap) fp ∧ Chg [b] w (w.setCell ⟨b, off + i * K + j, none⟩ u) ∧ b ∈ fp := by
  obtain ⟨a', n', cap', e, hn, hcap, hcm, ⟨rfl, rfl⟩ | ⟨b', off', fps, rfl, hb, rfl, hf, hc⟩⟩ := h
  · simp at hi
  · simp only [Value.slice.injEq] at e
    obtain ⟨e1, rfl, rfl⟩ := e
    subst ha
    simp only [Option.some.injEq, Addr.mk.injEq, and_true] at e1
    obtain ⟨rfl, rfl⟩ := e1
    refine ⟨⟨_, n, cap, rfl, by simpa using hn, hcap, hcm, .inr ⟨b, off, fps, rfl, by simpa using hb, rfl, by simpa using hf, fun q h h' => ?_⟩⟩, store_chg _, List.mem_cons_self ..⟩
    have hq : q < l.length := by simpa using h
    obtain ⟨cs, ⟨rfl, hfj⟩, hcell⟩ := hc q hq h'
    refine ⟨c ((l.set i x)[q]), ⟨rfl, hfj⟩, fun t ht => ?_⟩
    have htK : t < K := by rw [hk] at ht; exact ht
    by_cases hqi : i = q
    · subst hqi
      simp only [List.getElem_set_self, hx]
      by_cases htj : j = t
      · subst htj
        have := hcell j (by rw [hk]; exact hj)
        rw [World.cell?_setCell_same _ _ _ this]
        simp
      · rw [World.cell?_setCell_other _ _ _ _ (fun e => htj (by injection e; omega)), hcell t (by rw [hk]; exact htK)]
        simp [htj]
    · rw [World.cell?_setCell_other _ _ _ _ (fun e => by
        injection e with _ e
        rcases Nat.lt_or_gt_of_ne hqi with h1 | h1
        · have : (i + 1) * K ≤ q * K := Nat.mul_le_mul_right K (by omega); rw [Nat.succ_mul] at this; omega
        · have : (q + 1) * K ≤ i * K := Nat.mul_le_mul_right K (by omega); rw [Nat.succ_mul] at this; omega), hcell t (by rw [hk]; exact htK)]
      simp [hqi]

/-- a slice of flat elements opened -/
theorem SlR.openF {c : α → List Value} {fp : List Nat} (h : SlR K (flatR c) w l v fp) : ∃ (a : Option Addr) (n cap : Nat), v = .slice a n cap ∧ Hid (l.length = n) ∧ n ≤ cap ∧ n ≤ 9223372036854775807 ∧ cap ≤ maxLen ∧
      ∀ i, i < n → ∃ (_ : i < l.length) (b off : Nat), a = some ⟨b, off, none⟩ ∧ b < w.heap.size ∧ b ∈ fp ∧ ∀ j (hj : j < (c l[i]).length), w.cell? ⟨b, off + i * K + j, none⟩ = some (c l[i])[j] := by
  obtain ⟨a, n, cap, rfl, hn, hcap, hmax, hcm, hc⟩ := SlR.opened h
  refine ⟨a, n, cap, rfl, hn, hcap, hmax, hcm, fun i h => ?_⟩
  obtain ⟨hi, b, off, f, cs, rfl, hb, hbf, _, ⟨rfl, rfl⟩, hcell⟩ := hc i h
  exact ⟨hi, b, off, rfl, hb, hbf, hcell⟩

end Go.Proofs.Ytmcjklicepaiaaa

namespace Go.Proofs.Ytmcjklicepaiaaa
set_option linter.unusedVariables false
set_option linter.unusedSimpArgs false
open Go.RowKit Go.WideShapes

variable {α : Type} {K : Nat} {c : α → List Value} {e : TypeId} {w w' : World} {base : Nat} {v : Value} {l : List α}

theorem own_ne {a b n c m d : Nat} (h : a ≠ b) : (Value.slice (some ⟨a, 0, none⟩) n c).ownBlock ≠ (Value.slice (some ⟨b, 0, none⟩) m d).ownBlock := fun q => h (by simpa [Value.ownBlock] using q)

/-- 'append(out, list...)' of no element: nothing turns. -/
theorem wpList_append_no {P : Program} {ops : Array Oper} {rest : List Oper} {o : Oper} {a : Act} {Q : Exit → Act → World → Prop} {n cap c2 : Nat} {A : Option Addr} {B : Addr}
    (hgd : o.guard = none) (s x : Operand) (t e : TypeId) (i : TypeInfo)
    (ho : o.op = .call { callee := .builtin .append, args := #[s, x], argTypes := #[t, t] })
    (ht : P.underlying t = some (.slice e)) (hi : P.info? e = some i)
    (hs : a.eval s = .slice (some B) n cap) (hx : a.eval x = .slice A 0 c2) (hn : n ≤ cap)
    (h : wpList P ops Q rest (a.put o.dst (.slice (some B) n cap)) w) :
    wpList P ops Q (o :: rest) a w := by
  refine wpList_plain hgd fun K' hK' => ?_
  have hr : (Builtin.append_ #[t, t] o.type #[.slice (some B) n cap, .slice A 0 c2]).run P w = .ok (.slice (some B) n cap) w := by
    cases A <;> simp [Builtin.append_, run_underlying ht, sizeOf, typeInfo, hi, Builtin.lenOf, Builtin.firstCells, hn, storeCells, loadCells, loadCellsFrom]
  unfold Oper.wp execOp
  simp only [ho, resolve, invoke, builtin, Sem.run_bind, Sem.run_pure, Result.andThen_ok, List.map_toArray, List.map_cons, List.map_nil, hs, hx, hr]
  exact hK' _ _ h

/-- 'append(full, list...)', where the first has no room: a new row; nothing that was there turns. -/
theorem wpList_append_full {P : Program} {ops : Array Oper} {rest : List Oper} {o : Oper} {a : Act} {Q : Exit → Act → World → Prop} {n m c2 : Nat} {olds news : List α} {A B : Addr}
    (hgd : o.guard = none) (s x : Operand) (t e : TypeId) (i : TypeInfo) (z : Value) (bytes : Nat) (hk : ∀ x, (c x).length = K)
    (ho : o.op = .call { callee := .builtin .append, args := #[s, x], argTypes := #[t, t] })
    (ht : P.underlying t = some (.slice e)) (hi : P.info? e = some i) (hz : i.zero = some z) (hsize : i.size = K) (hby : i.bytes = bytes) (hzs : z.cells.size = K) (hb8 : bytes ≤ 128)
    (hs : a.eval s = .slice (some B) n n) (hx : a.eval x = .slice (some A) m c2) (hn : olds.length = n) (hold : ∀ j u, (olds.flatMap c)[j]? = some u → w.cell? (B.add j) = some u) (hm : news.length = m) (h0 : 0 < m) (hnews : ∀ j u, (news.flatMap c)[j]? = some u → w.cell? (A.add j) = some u)
    (hnn : n ≤ 2000000) (hmm : m ≤ 2000000)
    (h : ∀ v' w', OwnR K c e w.heap.size w' v' (olds ++ news) → Below w.heap.size w w' → wpList P ops Q rest (a.put o.dst v') w') :
    wpList P ops Q (o :: rest) a w := by
  have hl : (news.flatMap c).length = m * K := by rw [flat_len hk, hm]
  have hlo : (olds.flatMap c).length = n * K := by rw [flat_len hk, hn]
  subst hsize
  have hmb : (n + m) * i.bytes ≤ 4000000 * 128 := Nat.mul_le_mul (by omega) (by omega)
  have hfit : Builtin.nextslicecap (n + m) n * i.bytes ≤ 281474976710656 := growslice_fits (by omega) (by omega)
  refine wpList_plain hgd fun K' hK' => ?_
  have hr := run_append_grow (P := P) w t o.type e i z ht hi hz B n n (olds.flatMap c) hlo hold A m c2 (news.flatMap c) hl hnews (by omega) (by omega) hfit
  have hge := grownCap_ge w (n + m) n e
  have hcm := grownCap_le_maxLen w (n + m) n e (by unfold maxLen; omega)
  unfold Oper.wp execOp
  simp only [ho, resolve, invoke, builtin, Sem.run_bind, Sem.run_pure, Result.andThen_ok, List.map_toArray, List.map_cons, List.map_nil, hs, hx, hr]
  generalize grownCap w (n + m) n e = G at *
  have hlen : (olds ++ news).length = n + m := by rw [List.length_append, hn, hm]
  have hfl : ((olds ++ news).flatMap c).length = (n + m) * i.size := by rw [flat_len hk, hlen]
  refine hK' _ _ (h _ _ ?_ ?_)
  · unfold OwnR
    rw [hlen]
    refine ⟨hfl, .inr ⟨w.heap.size, G, _, rfl, Nat.le_refl _, heap_alloc_new w.drew _, by omega, hcm, ?_, ?_⟩⟩
    · simp only [Array.size_append, List.size_toArray, size_zeroCells, hzs, hl, hlo, ← Nat.add_mul]
      congr 1
      omega
    · rw [List.flatMap_append] at hfl ⊢
      simp only [Array.toList_append]
      rw [← hfl]
      exact List.take_left
  · exact (Below.refl _ w).drew.alloc (Nat.le_refl _) _

/-- 'append([]T{}, list...)', whatever the list: a row that holds it; nothing that was there turns. -/
theorem wpList_append_lit {P : Program} {ops : Array Oper} {rest : List Oper} {o : Oper} {a : Act} {Q : Exit → Act → World → Prop} {m c2 g : Nat} {news : List α} {A : Option Addr} {fq : List Nat}
    (hgd : o.guard = none) (s x : Operand) (t e : TypeId) (i : TypeInfo) (z : Value) (bytes : Nat) (hk : ∀ x, (c x).length = K)
    (ho : o.op = .call { callee := .builtin .append, args := #[s, x], argTypes := #[t, t] })
    (ht : P.underlying t = some (.slice e)) (hi : P.info? e = some i) (hz : i.zero = some z) (hsize : i.size = K) (hby : i.bytes = bytes) (hzs : z.cells.size = K) (hK0 : 0 < K) (hb8 : bytes ≤ 128)
    (hs : a.eval s = .slice (some ⟨g, 0, none⟩) 0 0) (hx : a.eval x = .slice A m c2) (hown : OwnR K c e base w (.slice (some ⟨g, 0, none⟩) 0 0) []) (hl : SlR K (fun _ x cs fp => cs = c x ∧ fp = []) w news (.slice A m c2) fq) (hbase : base ≤ w.heap.size)
    (hmm : m ≤ 2000000)
    (h : ∀ v' w', OwnR K c e base w' v' news → Below w.heap.size w w' → wpList P ops Q rest (a.put o.dst v') w') :
    wpList P ops Q (o :: rest) a w := by
  have hlen : news.length = m := by
    obtain ⟨a', n', c', e1, hn, _⟩ := hl
    simp only [Value.slice.injEq] at e1
    rw [hn, e1.2.1]
  by_cases h0 : m = 0
  · subst h0
    obtain rfl : news = [] := List.eq_nil_of_length_eq_zero hlen
    exact wpList_append_no hgd s x t e i ho ht hi hs hx (Nat.le_refl _) (h _ _ hown (Below.refl _ _))
  · have hne : news ≠ [] := fun e => h0 (by rw [← hlen, e]; rfl)
    have h2 := hl
    obtain ⟨a', n', c', e1, hn, _, _, ⟨rfl, _⟩ | ⟨b, off, fps, rfl, _⟩⟩ := hl
    · exact absurd rfl hne
    · simp only [Value.slice.injEq] at e1
      obtain ⟨rfl, rfl, rfl⟩ := e1
      exact wpList_append_empty hgd s x t e i z bytes hk ho ht hi hz hsize hby hzs hb8 hs hx hlen (by omega) (SlR.flat_cells hk hK0 h2) hmm (fun v' w' ho' hb' => h v' w' (OwnR.lower ho' hbase) hb')

end Go.Proofs.Ytmcjklicepaiaaa

namespace Go.Proofs.Ytmcjklicepaiaaa
set_option linter.unusedVariables false
set_option linter.unusedSimpArgs false
open Go.RowKit Go.ChangeShapes

theorem SlR.nilF {α : Type} {K : Nat} {c : α → List Value} {w : World} {l : List α} {n cap : Nat} {fp : List Nat} (h : SlR K (flatR c) w l (.slice none n cap) fp) : l = [] ∧ n = 0 := by
  obtain ⟨a, n', cap', e, hn, _, _, ⟨rfl, _⟩ | ⟨b, off, fps, rfl, _⟩⟩ := h
  · simp only [Value.slice.injEq] at e
    obtain ⟨rfl, rfl, rfl⟩ := e
    exact ⟨rfl, hn.symm⟩
  · simp at e

theorem infoCI : (Try.prog.info? 3).map (fun i => (i.zero, i.size, i.bytes)) = some (some (.int .i64 0), 1, 8) := by kernel_rfl

set_option maxRecDepth 100000 in
theorem slCloneI {α : Type} (c : α → List Value) (hk : ∀ x, (c x).length = 1) (v : Value) (l : List α) (fq : List Nat) (hs : l.length ≤ 1048576) (w : World) (g : SlR 1 (flatR c) w l v fq) :
    Calls Try.prog 145 #[v] w fun e w' => ∃ v' fp', e = .returned v' ∧ SlR 1 (flatR c) w' l v' fp' ∧ New fp' w w' ∧ Below w.heap.size w w' := by
  obtain ⟨a, n, cap, rfl, hn, hcap, hmax, hcm, _⟩ := g.openF
  obtain ⟨i0, hi, hz0, hz1, hz2⟩ := info_parts infoCI
  have q0 : ∀ (w : World) (a : Option Addr) (n c n' c' : Nat), (binOp .eql 24 (.slice a n c) (.slice none n' c')).run Try.prog w = .ok (.bool a.isNone) w := fun w a n c n' c' => Lib.run_eql_slice_nil w _ _ a n c n' c' Try.underlying24
  cases a with
  | none =>
    obtain ⟨rfl, rfl⟩ := g.nilF
    clear g hn
    go_enter Try.func145, Try.ntmps145
    go_wp2
    go_ret
    exact ⟨_, [], rfl, ⟨none, 0, 0, rfl, rfl, Nat.le_refl _, by simp, .inl ⟨rfl, rfl⟩⟩, New.nil _ _, Below.refl _ _⟩
  | some A =>
    have hns : n ≤ 2000000 := by have := hn.out; omega
    have G := Lib.hid (SlR.below (flatR_fits hk) g (below_alloc w (.cells #[] 3)))
    have HO : Hid (OwnR 1 c 3 w.heap.size (w.alloc (.cells #[] 3)) (.slice (some ⟨w.heap.size, 0, none⟩) 0 0) []) := Lib.hid (OwnR.lit w #[] 0 [] hk rfl rfl (Nat.le_refl _) (Nat.zero_le _))
    clear g hn
    go_enter Try.func145, Try.ntmps145
    go_wp2_with (at_builtin; refine wpList_append_lit (K := 1) (c := c) (news := l) rfl _ _ 24 3 i0 (.int .i64 0) 8 hk rfl Try.underlying24 hi hz0 hz1 hz2 rfl (by decide) (by decide) rfl rfl HO.out G.out (by simp) hns ?_; intro v' w2 ho hb; have HO2 := Lib.hid ho; have HB2 := Lib.hid ((below_alloc w (.cells #[] 3)).trans (hb.mono (by simp))); clear ho hb)
    go_ret
    obtain ⟨fp', g1, g2, g3, g4⟩ := HO2.out.reads hk
    exact ⟨_, fp', rfl, g1, ⟨g2, g3, g4⟩, HB2.out⟩

theorem slClipI (a : Option Addr) (n c : Nat) (hc : n ≤ c) (hm : c ≤ maxLen) (w : World) :
    Calls Try.prog 144 #[.slice a n c] w fun e w' => e = .returned (.slice a n n) ∧ w = w' := by
  unfold maxLen at hm
  go_enter Try.func144, Try.ntmps144
  go_wp2
  go_ret
  simp

set_option maxRecDepth 100000 in
theorem cloneI {α : Type} (c : α → List Value) (hk : ∀ x, (c x).length = 1) (v : Value) (l : List α) (fq : List Nat) (hs : l.length ≤ 1048576) (w : World) (g : SlR 1 (flatR c) w l v fq) :
    Calls Try.prog 119 #[v] w fun e w' => ∃ v' fp', e = .returned v' ∧ SlR 1 (flatR c) w' l v' fp' ∧ New fp' w w' ∧ Below w.heap.size w w' := by
  obtain ⟨a0, n0, cap0, rfl, _⟩ := g.openF
  have G := Lib.hid g
  clear g
  go_enter Try.func119, Try.ntmps119
  go_wp2_with fail
  refine (slCloneI c hk _ l fq hs _ G.out).mono ?_
  rintro e w1 ⟨v', fp', rfl, g1, n1, b1⟩
  obtain ⟨a, n, cap, rfl, hn, hcap, hmax, hcm, _⟩ := g1.openF
  have G1 := Lib.hid (SlR.clip g1)
  have N1 := Lib.hid n1
  have B1 := Lib.hid b1
  clear g1 n1 b1 hn
  go_wp2_with fail
  refine (slClipI _ _ _ hcap hcm _).mono ?_
  rintro e w2 ⟨rfl, rfl⟩
  go_wp2
  go_ret
  exact ⟨_, fp', rfl, G1.out, N1.out, B1.out⟩

theorem infoCJ : (Try.prog.info? 64).map (fun i => (i.zero, i.size, i.bytes)) = some (some (.agg #[.int .i64 0, .int .i64 0, .int .i64 0, .int .i64 0, .slice none 0 0]), 5, 56) := by kernel_rfl

set_option maxRecDepth 100000 in
theorem slCloneJ {α : Type} (c : α → List Value) (hk : ∀ x, (c x).length = 5) (v : Value) (l : List α) (fq : List Nat) (hs : l.length ≤ 1048576) (w : World) (g : SlR 5 (flatR c) w l v fq) :
    Calls Try.prog 143 #[v] w fun e w' => ∃ v' fp', e = .returned v' ∧ SlR 5 (flatR c) w' l v' fp' ∧ New fp' w w' ∧ Below w.heap.size w w' := by
  obtain ⟨a, n, cap, rfl, hn, hcap, hmax, hcm, _⟩ := g.openF
  obtain ⟨i0, hi, hz0, hz1, hz2⟩ := info_parts infoCJ
  have q0 : ∀ (w : World) (a : Option Addr) (n c n' c' : Nat), (binOp .eql 56 (.slice a n c) (.slice none n' c')).run Try.prog w = .ok (.bool a.isNone) w := fun w a n c n' c' => Lib.run_eql_slice_nil w _ _ a n c n' c' Try.underlying56
  cases a with
  | none =>
    obtain ⟨rfl, rfl⟩ := g.nilF
    clear g hn
    go_enter Try.func143, Try.ntmps143
    go_wp2
    go_ret
    exact ⟨_, [], rfl, ⟨none, 0, 0, rfl, rfl, Nat.le_refl _, by simp, .inl ⟨rfl, rfl⟩⟩, New.nil _ _, Below.refl _ _⟩
  | some A =>
    have hns : n ≤ 2000000 := by have := hn.out; omega
    have G := Lib.hid (SlR.below (flatR_fits hk) g (below_alloc w (.cells #[] 64)))
    have HO : Hid (OwnR 5 c 64 w.heap.size (w.alloc (.cells #[] 64)) (.slice (some ⟨w.heap.size, 0, none⟩) 0 0) []) := Lib.hid (OwnR.lit w #[] 0 [] hk rfl rfl (Nat.le_refl _) (Nat.zero_le _))
    clear g hn
    go_enter Try.func143, Try.ntmps143
    go_wp2_with (at_builtin; refine wpList_append_lit (K := 5) (c := c) (news := l) rfl _ _ 56 64 i0 (.agg #[.int .i64 0, .int .i64 0, .int .i64 0, .int .i64 0, .slice none 0 0]) 56 hk rfl Try.underlying56 hi hz0 hz1 hz2 rfl (by decide) (by decide) rfl rfl HO.out G.out (by simp) hns ?_; intro v' w2 ho hb; have HO2 := Lib.hid ho; have HB2 := Lib.hid ((below_alloc w (.cells #[] 64)).trans (hb.mono (by simp))); clear ho hb)
    go_ret
    obtain ⟨fp', g1, g2, g3, g4⟩ := HO2.out.reads hk
    exact ⟨_, fp', rfl, g1, ⟨g2, g3, g4⟩, HB2.out⟩

theorem slClipJ (a : Option Addr) (n c : Nat) (hc : n ≤ c) (hm : c ≤ maxLen) (w : World) :
    Calls Try.prog 91 #[.slice a n c] w fun e w' => e = .returned (.slice a n n) ∧ w = w' := by
  unfold maxLen at hm
  go_enter Try.func91, Try.ntmps91
  go_wp2
  go_ret
  simp

set_option maxRecDepth 100000 in
theorem cloneJ {α : Type} (c : α → List Value) (hk : ∀ x, (c x).length = 5) (v : Value) (l : List α) (fq : List Nat) (hs : l.length ≤ 1048576) (w : World) (g : SlR 5 (flatR c) w l v fq) :
    Calls Try.prog 118 #[v] w fun e w' => ∃ v' fp', e = .returned v' ∧ SlR 5 (flatR c) w' l v' fp' ∧ New fp' w w' ∧ Below w.heap.size w w' := by
  obtain ⟨a0, n0, cap0, rfl, _⟩ := g.openF
  have G := Lib.hid g
  clear g
  go_enter Try.func118, Try.ntmps118
  go_wp2_with fail
  refine (slCloneJ c hk _ l fq hs _ G.out).mono ?_
  rintro e w1 ⟨v', fp', rfl, g1, n1, b1⟩
  obtain ⟨a, n, cap, rfl, hn, hcap, hmax, hcm, _⟩ := g1.openF
  have G1 := Lib.hid (SlR.clip g1)
  have N1 := Lib.hid n1
  have B1 := Lib.hid b1
  clear g1 n1 b1 hn
  go_wp2_with fail
  refine (slClipJ _ _ _ hcap hcm _).mono ?_
  rintro e w2 ⟨rfl, rfl⟩
  go_wp2
  go_ret
  exact ⟨_, fp', rfl, G1.out, N1.out, B1.out⟩

end Go.Proofs.Ytmcjklicepaiaaa

namespace Go.Proofs.Ytmcjklicepaiaaa
set_option linter.unusedVariables false
set_option linter.unusedSimpArgs false
open Go.RowKit

def FOwn {α : Type} (K : Nat) (c : α → List Value) (e : TypeId) (base : Nat) (l : List α) : Fact := fun v w => OwnR K c e base w v l
theorem stOwn {α : Type} (K : Nat) (c : α → List Value) (e : TypeId) (base : Nat) (l : List α) : Stable [] (FOwn K c e base l) := fun _ _ _ h hc => OwnR.below h hc.below

end Go.Proofs.Ytmcjklicepaiaaa
