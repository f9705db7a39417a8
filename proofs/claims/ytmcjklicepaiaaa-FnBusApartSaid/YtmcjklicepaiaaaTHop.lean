/-
  The heap by kinds, as steps of the walk: append of one element, a number stored, the reader kept.
-/
import Derived.Test.YtmcjklicepaiaaaTH
import Derived.Test.YtmcjklicepaiaaaDraw
namespace Go.Proofs.Ytmcjklicepaiaaa
set_option linter.unusedVariables false
set_option linter.unusedSimpArgs false
open Go.RowKit Go.WideShapes

variable {G : Gd} {rb : Nat} {L : List Nat} {T T' T'' : Tab} {w w' w'' : World}

/-- 'append(v, x)': the kinds hold. -/
theorem wpList_appendT {P : Program} {ops : Array Oper} {rest : List Oper} {o : Oper} {a : Act} {Q : Exit → Act → World → Prop} {k n cap c2 : Nat} {ao : Option Addr} {A : Addr} {cs : List Value}
    (hgd : o.guard = none) (s y : Operand) (t e : TypeId) (i : TypeInfo) (z : Value) (bytes : Nat)
    (ho : o.op = .call { callee := .builtin .append, args := #[s, y], argTypes := #[t, t] })
    (ht : P.underlying t = some (.slice e)) (hi : P.info? e = some i) (hz : i.zero = some z) (hsize : i.size = kK k) (hby : i.bytes = bytes) (hzs : z.cells.size = kK k) (hb8 : bytes ≤ 128)
    (hs : a.eval s = .slice ao n cap) (hy : a.eval y = .slice (some A) 1 c2) (hT : TH G L T w) (hA : SlA T k ao n cap) (hl : cs.length = kK k) (hU : UnitOk G L T w k cs) (hcell : ∀ j (hj : j < cs.length), w.cell? (A.add j) = some cs[j]) (h1 : ∀ u ∈ cs, u.oneCell' = true) (hn : n ≤ 2000000)
    (h : ∀ ao' cap' T' w', TH G L T' w' → Step [] T w T' w' → SlA T' k ao' (n + 1) cap' → wpList P ops Q rest (a.put o.dst (.slice ao' (n + 1) cap')) w') :
    wpList P ops Q (o :: rest) a w := by
  have hkp := kK_pos k
  have hbb : (n + 1) * bytes ≤ 2000001 * 128 := Nat.mul_le_mul (by omega) hb8
  have hmx : n + 1 ≤ maxLen := by unfold maxLen; omega
  have hnews : ∀ j u, cs[j]? = some u → w.cell? (A.add j) = some u := fun j u hj => by
    obtain ⟨hj1, hj2⟩ := List.getElem?_eq_some_iff.1 hj
    rw [← hj2]; exact hcell j hj1
  -- what a new block holds, after it has grown
  have grown : ∀ (olds : List Value) (v' : Value) (w' : World), olds.length = n * kK k → (∀ q, q < n → ∃ ds : List Value, ds.length = kK k ∧ UnitOk G L T w k ds ∧ ∀ j (hj : j < ds.length), olds[q * kK k + j]? = some ds[j]) → w'.ownsRow w.heap.size e (kK k) v' (n + 1) (olds ++ cs) → w.grownBy w' none →
      ∃ ao' cap' T', v' = .slice ao' (n + 1) cap' ∧ TH G L T' w' ∧ Step [] T w T' w' ∧ SlA T' k ao' (n + 1) cap' := by
    intro olds v' w' hlo hun hown hgr
    have hbel := below_of_grown hgr
    obtain ⟨hlen, ⟨_, h0⟩ | ⟨g, cap', cur, rfl, hb, hg, hnc, hcm, hcs, htake⟩⟩ := hown
    · omega
    · have hgl : g < w'.heap.size := by
        rcases Nat.lt_or_ge g w'.heap.size with h | h
        · exact h
        · simp [Array.getElem?_eq_none h] at hg
      have hcur : ∀ j, j < (n + 1) * kK k → w'.cell? ⟨g, j, none⟩ = (olds ++ cs)[j]? := fun j hj => by
        rw [cell_of_row w' g _ cur e (0, 0) hg, ← htake, List.getElem?_take, if_pos hj]
        simp
      obtain ⟨h1', h2'⟩ := hT.adopt (w' := w') (fq := []) (b := g) (x := ⟨k, 0, n + 1, cap' * kK k⟩) (hbel.chg []) (by simp) hb hgl (fun o => frozen_of_row w' g o cur e hg) (fun j hj => by
          show (w'.cell? ⟨g, 0 + j, none⟩).isSome = true
          have hj' : j < cap' * kK k := hj
          rw [cell_of_row w' g _ cur e (0, 0) hg, Nat.zero_add]
          simp [hcs, hj']) (Nat.mul_le_mul_right _ hnc) (fun q hq => by
          have hq' : q < n + 1 := hq
          by_cases e' : q < n
          · obtain ⟨ds, g1, g2, g3⟩ := hun q e'
            refine ⟨ds, g1, g2, fun j hj => ?_⟩
            have hlt : q * kK k + j < n * kK k := by
              have := Nat.mul_le_mul_right (kK k) (show q + 1 ≤ n by omega)
              rw [Nat.succ_mul] at this
              omega
            show w'.cell? ⟨g, 0 + q * kK k + j, none⟩ = _
            rw [Nat.zero_add, hcur _ (by rw [Nat.succ_mul]; omega), List.getElem?_append_left (by omega)]
            exact g3 j hj
          · obtain rfl : q = n := by omega
            refine ⟨cs, hl, hU, fun j hj => ?_⟩
            show w'.cell? ⟨g, 0 + q * kK k + j, none⟩ = _
            rw [Nat.zero_add, hcur _ (by rw [Nat.succ_mul]; omega), List.getElem?_append_right (by omega), hlo, Nat.add_sub_cancel_left]
            exact List.getElem?_eq_getElem hj)
      exact ⟨_, _, _, rfl, h1', h2', hnc, hcm, .inr ⟨g, 0, _, by simp, Tab.put_self .., rfl, by simp, by simp⟩⟩
  obtain ⟨hnc, hcm, ⟨rfl, rfl, rfl⟩ | ⟨b, of, x, rfl, hb, hk, hnm, hM⟩⟩ := hA
  · refine wpList_append_grows w hgd s y t ho e i z (kK k) bytes ht hi hz hsize hby hzs hkp none 0 0 [] hs (fun _ => ⟨rfl, rfl⟩) (by simp) (fun b hb => by cases hb) A 1 c2 cs hy (by omega) hnews h1 (by omega) hmx (by omega) (fun v' w' hown hgr => ?_)
    obtain ⟨ao', cap', T', rfl, g1, g2, g3⟩ := grown [] v' w' (by simp) (fun q hq => absurd hq (by omega)) hown hgr
    exact h ao' cap' T' w' g1 g2 g3
  · subst hk
    obtain ⟨olds, holds⟩ : ∃ l : List Value, l = (List.range (n * kK x.k)).map fun j => (w.cell? ⟨b, x.lo + of * kK x.k + j, none⟩).getD (.bool false) := ⟨_, rfl⟩
    have hlo : olds.length = n * kK x.k := by rw [holds]; simp
    have hfit := hT.fit b x hb
    have hin : ∀ j, j < n * kK x.k → (w.cell? ⟨b, x.lo + of * kK x.k + j, none⟩).isSome = true := fun j hj => by
      have := hT.there b x hb (of * kK x.k + j) (by
        have := Nat.mul_le_mul_right (kK x.k) hnm
        rw [Nat.add_mul] at this
        omega)
      rwa [← Nat.add_assoc] at this
    have hval : ∀ j, j < n * kK x.k → olds[j]? = w.cell? ⟨b, x.lo + of * kK x.k + j, none⟩ := fun j hj => by
      obtain ⟨u, hu⟩ := Option.isSome_iff_exists.1 (hin j hj)
      rw [holds]
      simp [hj, hu]
    refine wpList_append_arg w hgd s y t ho e i z (kK x.k) bytes ht hi hz hsize hby hzs hkp b (x.lo + of * kK x.k) n cap olds hs hlo (fun j u hj => ?_) A 1 c2 cs hy (by omega) hnews h1 (fun hroom j hj => ?_) hmx (by omega) (fun hroom => ?_) (fun hfull v' w' hown hgr => ?_)
    · have hj1 : j < n * kK x.k := by have := (List.getElem?_eq_some_iff.1 hj).1; omega
      rw [← hval j hj1]; exact hj
    · refine ⟨?_, hT.free b x hb _⟩
      have := hT.there b x hb ((of + n) * kK x.k + j) (by
        have := Nat.mul_le_mul_right (kK x.k) (show of + n + 1 ≤ of + cap by omega)
        rw [Nat.succ_mul] at this
        omega)
      rwa [Nat.add_mul, ← Nat.add_assoc, ← Nat.add_assoc] at this
    · have hM' : (of + n + 1) * kK x.k ≤ x.M := Nat.le_trans (Nat.mul_le_mul_right _ (by omega)) hM
      obtain ⟨g1, g2⟩ := hT.put (q := of + n) hb hnm hl hU hM'
      have e1 : x.lo + of * kK x.k + n * kK x.k = x.lo + (of + n) * kK x.k := by rw [Nat.add_mul]; omega
      rw [e1]
      exact h _ _ _ _ g1 g2 ⟨hroom, hcm, .inr ⟨b, of, ⟨x.k, x.lo, max x.m (of + n + 1), x.M⟩, rfl, Tab.put_self .., rfl, Nat.le_max_right _ _, hM⟩⟩
    · obtain ⟨ao', cap', T', rfl, g1, g2, g3⟩ := grown olds v' w' hlo (fun q hq => by
        obtain ⟨ds, d1, d2, d3⟩ := hT.at' hb rfl hnm hq
        refine ⟨ds, d1, d2, fun j hj => ?_⟩
        have hlt : q * kK x.k + j < n * kK x.k := by
          have := Nat.mul_le_mul_right (kK x.k) (show q + 1 ≤ n by omega)
          rw [Nat.succ_mul] at this
          omega
        rw [hval _ hlt, ← d3 j hj]
        congr 2
        omega) hown hgr
      exact h ao' cap' T' w' g1 g2 g3

/-- one cell stored over another of the kind -/
theorem TH.store {k n i : Nat} {b off : Nat} {v : Value} (h : TH G L T w) (hS : SlT T k (some ⟨b, off, none⟩) n) (hi : i < n) (hk : kK k = 1) (hU : UnitOk G L T w k [v]) :
    (∃ u, w.cell? ⟨b, off + i, none⟩ = some u ∧ UnitOk G L T w k [u]) ∧ w.frozen? ⟨b, off + i, none⟩ = false ∧ ∃ T', TH G L T' (w.setCell ⟨b, off + i, none⟩ v) ∧ Step [] T w T' (w.setCell ⟨b, off + i, none⟩ v) := by
  rcases hS with rfl | ⟨b', o, x, e, hb, rfl, hn⟩
  · omega
  · cases e
    obtain ⟨cs, h1, h2, h3⟩ := h.at' hb rfl hn hi
    rw [hk] at h1
    obtain ⟨u, rfl⟩ : ∃ u, cs = [u] := by
      cases cs with
      | nil => simp at h1
      | cons u r => cases r with
        | nil => exact ⟨u, rfl⟩
        | cons _ _ => simp at h1
    have h30 := h3 0 (by simp)
    simp only [Nat.add_zero, List.getElem_cons_zero, hk, Nat.mul_one] at h30
    have hM : (o + i + 1) * kK x.k ≤ x.M := Nat.le_trans (Nat.mul_le_mul_right _ (by omega)) (h.fit b x hb)
    obtain ⟨g1, g2⟩ := h.put (q := o + i) (cs := [v]) hb (by omega) (by rw [hk]; rfl) hU hM
    rw [hk, Nat.mul_one] at g1 g2
    rw [hk, Nat.mul_one]
    rw [← Nat.add_assoc] at g1 g2
    exact ⟨⟨u, h30, h2⟩, h.free b x hb _, _, g1, g2⟩

/-- the reader's block, and what it reads, are none of the kinds -/
theorem RdAt.step {fq fp : List Nat} {N : Int} (h : RdAt w rb fq N) (s : Step fp T w T' w') (h1 : T rb = none) (h2 : ∀ b, b ∈ fq → T b = none) (h3 : fp = []) : RdAt w' rb fq N := by
  subst h3
  have hlt := h.lt
  obtain ⟨l, v, p, h0, hb, hn, hl, hp, p0, p1, hf⟩ := h
  have e : w'.heap[rb]? = w.heap[rb]? := s.block rb hlt (by simp) h1
  exact ⟨l, v, p, s.cell h0 (by simp) h1, hb.same byteR_fits (fun b hbb => s.block b (hb.lt byteR_fits b hbb) (by simp) (h2 b hbb)) s.size, hn, hl, s.cell hp (by simp) h1, p0, p1, (World.frozen?_of_block e).trans hf⟩
theorem RdAt.old {fq : List Nat} {N : Int} (h : RdAt w rb fq N) : ∀ b, b ∈ fq → b < w.heap.size := by
  obtain ⟨l, v, p, h0, hb, _⟩ := h
  exact hb.lt byteR_fits

/-- what is new since is frozen, once none of the kinds is told of there -/
theorem Fz.new {fp fq : List Nat} (h : TH G L T w) (hc : Chg fq w w') (hn : ∀ b, b ∈ fp → w.heap.size ≤ b) (hlt : ∀ b, b ∈ fp → b < w'.heap.size) : Fz L T w' fp := fun b hb => by
  refine ⟨?_, fun hm => by have := hn b hb; have := h.old b hm; omega, hlt b hb⟩
  cases e : T b with
  | none => rfl
  | some x => have := h.lt b x e; have := hn b hb; omega
theorem Step.none_of {fq : List Nat} (s : Step fq T w T' w') {b : Nat} (h : T b = none) (hb : b < w.heap.size) : T' b = none := s.fresh b h hb
/-- a block that has just been laid is none of the kinds -/
theorem TH.fresh (h : TH G L T w) {b : Nat} (hb : w.heap.size ≤ b) : T b = none := by
  cases e : T b with
  | none => rfl
  | some x => have := h.lt b x e; omega

end Go.Proofs.Ytmcjklicepaiaaa
