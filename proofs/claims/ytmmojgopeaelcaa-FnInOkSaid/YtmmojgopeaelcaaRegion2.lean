/-
  A rule for a statement whose order of evaluation Go leaves open, with one word on all that has been done; and from that: what is made anew by several operations lies apart. No program in sight.
-/
import Derived.Test.YtmmojgopeaelcaaRegion
namespace Go.Proofs.Ytmmojgopeaelcaa
set_option linter.unusedVariables false
set_option linter.unusedSimpArgs false
open Go

variable {P : Program} {ops : Array Oper} {Q : Exit → Act → World → Prop}

/-- What operation i owes, of the word on all that has been done. -/
def Owes2 (P : Program) (ops : Array Oper) (Q : Exit → Act → World → Prop) (T : Nat → List Nat) (F : (Nat → Bool) → (Nat → Value) → World → Prop) (a0 : Act) (i : Nat) : Prop :=
  ∀ o, ops[i]? = some o → ∀ (L : Nat → Bool) (u : Nat → Value) (w : World), L i = false → (∀ j, j ∈ T i → L j = true) → F L u w → ∀ a : Act, (∀ x, x ∈ o.op.operands → a.eval x = rho ops a0 u i x) →
    o.wp P a w (fun a' w' => ∃ v, a' = a.put o.dst v ∧ F (fun j => L j || (j == i)) (fun j => if j = i then v else u j) w') Q

/-- The rule, over whatever walks the orders. -/
theorem region_joint_gen {Goal : Prop} {a0 : Act} {wI : World} (hX : ∀ J : Array Bool → Act → World → Prop,
      (∀ (i : Nat) (o : Oper), ops[i]? = some o → ∀ e : Edge, e ∈ o.after → Region.binds .any e = true → e.on < i) →
      (∀ (listed : Array Bool) (a : Act) (w : World) (i : Nat) (o : Oper), ops[i]? = some o → listed.size = ops.size → listed.getD i true = false → (∀ e : Edge, e ∈ o.after → Region.binds .any e = true → listed.getD e.on false = true) → J listed a w →
        wpOp P ops Q i (fun a' w' => J (listed.setIfInBounds i true) a' w') a w) →
      (∀ (listed : Array Bool) (a : Act) (w : World), listed.size = ops.size → (∀ i, i < ops.size → listed.getD i false = true) → J listed a w → Q .normal a w) → J (Array.replicate ops.size false) a0 wI → Goal)
    (T : Nat → List Nat) (F : (Nat → Bool) → (Nat → Value) → World → Prop) (size : Nat)
    (hsize : a0.tmps.size = size) (hok : okRegion ops T size = true) (h0 : ∀ u, F (fun _ => false) u wI) (hop : ∀ i, i < ops.size → Owes2 P ops Q T F a0 i)
    (hend : ∀ (L : Nat → Bool) (u : Nat → Value) (w' : World), (∀ i, i < ops.size → L i = true) → F L u w' → Q .normal (fill ops u (fun _ => true) a0 ops.size) w') : Goal := by
  have at' := fun {i o} (ho : ops[i]? = some o) => okRegion_at hok ho
  have hdst : ∀ i d, dstOf ops i = some d → d < a0.tmps.size := by
    intro i d hd
    cases ho : ops[i]? with
    | none => simp [dstOf, ho] at hd
    | some o => rw [hsize]; exact (at' ho).dst d (by simpa [dstOf, ho] using hd)
  refine hX (fun listed a w => ∃ (u : Nat → Value), a = fill ops u (fun i => listed.getD i false) a0 ops.size ∧
      (∀ i, i < ops.size → listed.getD i false = true → ∀ j, j ∈ T i → listed.getD j false = true) ∧ F (fun i => listed.getD i false) u w)
    (fun i o ho => (at' ho).back) ?_ ?_ ?_
  · intro listed a w i o ho hsz hli hdeps ⟨u, ha, hdown, hF⟩
    have hi : i < ops.size := (Array.getElem?_eq_some_iff.1 ho).1
    have hil : i < listed.size := by omega
    have A := at' ho
    have hlf : listed.getD i false = false := by
      rw [Array.getD, dif_pos hil] at hli ⊢; exact hli
    have hlf' : listed[i] = false := by rw [Array.getD, dif_pos hil] at hlf; exact hlf
    have hT : ∀ j, j ∈ T i → listed.getD j false = true := by
      intro j hj
      obtain ⟨_, e, he, hb, h⟩ := A.anc j hj
      have h1 := hdeps e he hb
      rcases h with h | h
      · rw [← h]; exact h1
      · exact hdown e.on (by have := A.back e he hb; omega) h1 j h
    have hwr : ∀ t, t ∈ tmpsOf o ++ o.dst.toList → ∀ j, j < ops.size → dstOf ops j = some t → i < j → listed.getD j false = false := by
      intro t ht j hj hdj hij
      rcases Bool.eq_false_or_eq_true (listed.getD j false) with h | h
      · have := hdown j hj h i (((A.order t ht j hj (by omega) hdj).2 hij))
        rw [hlf] at this; simp at this
      · exact h
    have hev : ∀ x, x ∈ o.op.operands → a.eval x = rho ops a0 u i x := by
      intro x hx
      subst ha
      cases x with
      | tmp t =>
        have ht : t ∈ tmpsOf o ++ o.dst.toList := List.mem_append_left _ (List.mem_filterMap.2 ⟨.tmp t, by simpa using hx, rfl⟩)
        rw [fill_eval u _ a0 hdst]
        have e : lastW ops (fun i => listed.getD i false) t ops.size = lastW ops (fun _ => true) t i := by
          rw [lastW_stop _ t i ops.size (by omega)]
          · exact lastW_congr _ _ t i fun j hj hdj => hT j ((A.order t ht j (by omega) (by omega) hdj).1 hj)
          · intro j h1 h2 hdj
            by_cases hji : j = i
            · subst hji; exact hlf
            · exact hwr t ht j h2 hdj (by omega)
        rw [e]; rfl
      | const v => rfl
      | global g => rfl
      | func f => rfl
    have hw := hop i hi o ho (fun i => listed.getD i false) u w hlf hT hF a hev
    unfold wpOp
    rw [ho]
    have hwant : Region.wanted o (yielded ops a.tmps) = true := by simp [Region.wanted, A.guard]
    simp only [hwant, if_true]
    refine .inl (Oper.wp_mono (fun a' w' h => ?_) hw)
    obtain ⟨v, rfl, hF'⟩ := h
    have hset : ∀ j, (listed.setIfInBounds i true).getD j false = (listed.getD j false || (j == i)) := by
      intro j
      by_cases hji : j = i
      · subst hji; simp [hil]
      · simp [Array.getD_eq_getD_getElem?, Array.getElem?_setIfInBounds_ne (Ne.symm hji), hji]
    refine ⟨fun j => if j = i then v else u j, ?_, ?_, by rw [show (fun i_1 => (listed.setIfInBounds i true).getD i_1 false) = (fun j => (listed.getD j false || (j == i))) from funext hset]; exact hF'⟩
    · have hd : dstOf ops i = o.dst := by simp [dstOf, ho]
      rw [show (fun i_1 => (listed.setIfInBounds i true).getD i_1 false) = (fun j => (listed.getD j false || (j == i))) from funext hset]
      rw [fill_put u (fun i => listed.getD i false) a0 i v hlf ops.size hi, hd, ha]
      intro j d hij hLj hdi hdj
      have hjs : j < ops.size := by
        rcases Nat.lt_or_ge j ops.size with h | h
        · exact h
        · rw [Array.getD, dif_neg (by omega)] at hLj; simp at hLj
      rw [hd] at hdi
      have := hwr d (List.mem_append_right _ (by simp [hdi])) j hjs hdj hij
      rw [this] at hLj; simp at hLj
    · intro k hk hlk j hj
      rw [hset] at hlk ⊢
      rcases Bool.or_eq_true _ _ ▸ hlk with h | h
      · rw [hdown k hk h j hj]; rfl
      · obtain rfl : k = i := by simpa using h
        rw [hT j hj]; rfl
  · intro listed a w hsz hall ⟨u, ha, _, hF⟩
    subst ha
    have e : fill ops u (fun i => listed.getD i false) a0 ops.size = fill ops u (fun _ => true) a0 ops.size := by
      have : ∀ n, n ≤ ops.size → fill ops u (fun i => listed.getD i false) a0 n = fill ops u (fun _ => true) a0 n := by
        intro n
        induction n with
        | zero => intro _; rfl
        | succ n ih =>
          intro hn
          unfold fill
          rw [ih (by omega), hall n (by omega)]
      exact this _ (Nat.le_refl _)
    rw [e]
    exact hend _ u w hall hF
  · have hrep : ∀ i, (Array.replicate ops.size false).getD i false = false := by
      intro i
      by_cases h : i < ops.size <;> simp [Array.getD, h]
    refine ⟨fun _ => undef, ?_, fun i _ h => by rw [hrep] at h; simp at h, by rw [show (fun i => (Array.replicate ops.size false).getD i false) = (fun _ => false) from funext hrep]; exact h0 _⟩
    have : ∀ n, fill ops (fun _ => undef) (fun i => (Array.replicate ops.size false).getD i false) a0 n = a0 := by
      intro n
      induction n with
      | zero => rfl
      | succ n ih => unfold fill; rw [hrep, ih]; simp
    exact (this _).symm


/-- The rule. -/
theorem wp_region_joint {id : Nat} {L : List Value} {df : List Deferred} {w : World} (hm : P.follows .mixedOrders = true) (T : Nat → List Nat) (F : (Nat → Bool) → (Nat → Value) → World → Prop) (size n : Nat) (ds : List (Option Tmp))
    (hsize : L.length = size) (hn : ops.size = n) (hd : ops.toList.map (·.dst) = ds) (hok : okRegion ops T size = true) (h0 : ∀ u, F (fun _ => false) u w.drew) (hop : ∀ i, i < n → Owes2 P ops Q T F ⟨L.toArray, df⟩ i)
    (hend : ∀ (M : Nat → Bool) (u : Nat → Value) (w' : World), (∀ i, i < n → M i = true) → F M u w' → Q .normal ⟨(setAll ds u 0 L).toArray, df⟩ w') :
    (Code.region id ops true).wp P Q ⟨L.toArray, df⟩ w :=
  region_joint_gen (wI := w.drew) (fun J h1 h2 h3 h4 => wp_region_any hm (wpAny_inv J h1 h2 h3 ops.size _ _ _ (by simp) (by simp) h4)) T F size (by simpa using hsize) hok h0 (by rw [hn]; exact hop)
    fun M u w' hM hF => by rw [fill_setAll hd]; rw [hn] at hM; exact hend M u w' hM hF

/-- What operation i owes, where G i speaks of its value and of those that it waits for, and what it makes is new. -/
def OwesSep (P : Program) (ops : Array Oper) (Q : Exit → Act → World → Prop) (T : Nat → List Nat) (G : Nat → (Nat → Value) → Value → World → Prop) (B : World → Prop) (blk : Nat → Value → List Nat) (a0 : Act) (i : Nat) : Prop :=
  ∀ o, ops[i]? = some o → ∀ (u : Nat → Value) (w : World), B w → (∀ j, j ∈ T i → G j u (u j) w) → (∀ j k, j ∈ T i → k ∈ T i → j ≠ k → ∀ b, b ∈ blk j (u j) → b ∉ blk k (u k)) → ∀ a : Act, (∀ x, x ∈ o.op.operands → a.eval x = rho ops a0 u i x) →
    o.wp P a w (fun a' w' => ∃ v, a' = a.put o.dst v ∧ B w' ∧ G i u v w' ∧ (∀ j u x, j ≠ i → G j u x w → G j u x w') ∧ ∀ b, b ∈ blk i v → w.heap.size ≤ b) Q

theorem wp_region_sep {id : Nat} {L : List Value} {df : List Deferred} {w : World} (hm : P.follows .mixedOrders = true) (T : Nat → List Nat) (G : Nat → (Nat → Value) → Value → World → Prop) (B : World → Prop) (blk : Nat → Value → List Nat) (size n : Nat) (ds : List (Option Tmp))
    (hsize : L.length = size) (hn : ops.size = n) (hd : ops.toList.map (·.dst) = ds) (hok : okRegion ops T size = true) (h0 : B w.drew)
    (hloc : ∀ i u u' v w, (∀ j, j ∈ T i → u j = u' j) → G i u v w → G i u' v w) (hlt : ∀ j u x w, G j u x w → ∀ b, b ∈ blk j x → b < w.heap.size)
    (hop : ∀ i, i < n → OwesSep P ops Q T G B blk ⟨L.toArray, df⟩ i)
    (hend : ∀ (u : Nat → Value) (w' : World), B w' → (∀ i, i < n → G i u (u i) w') → (∀ i j, i < n → j < n → i ≠ j → ∀ b, b ∈ blk i (u i) → b ∉ blk j (u j)) → Q .normal ⟨(setAll ds u 0 L).toArray, df⟩ w') :
    (Code.region id ops true).wp P Q ⟨L.toArray, df⟩ w := by
  refine wp_region_joint hm T (fun M u w => B w ∧ (∀ j, M j = true → ∀ q, q ∈ T j → M q = true) ∧ (∀ j, M j = true → G j u (u j) w) ∧ ∀ i j, M i = true → M j = true → i ≠ j → ∀ b, b ∈ blk i (u i) → b ∉ blk j (u j)) size n ds hsize hn hd hok
    (fun u => ⟨h0, fun _ h => by simp at h, fun _ h => by simp at h, fun _ _ h => by simp at h⟩) (fun i hi o ho M u w hMi hT ⟨hB, hdn, hG, hS⟩ a hev => ?_) (fun M u w' hM ⟨hB, _, hG, hS⟩ => hend u w' hB (fun i hi => hG i (hM i hi)) (fun i j hi hj => hS i j (hM i hi) (hM j hj)))
  refine Oper.wp_mono (fun a' w' ⟨v, e, hB', hG', hst, hnew⟩ => ⟨v, e, hB', ?_, ?_, ?_⟩) (hop i hi o ho u w hB (fun j hj => hG j (hT j hj)) (fun j k hj hk => hS j k (hT j hj) (hT k hk)) a hev)
  · intro j hj q hq
    rcases Bool.or_eq_true _ _ ▸ hj with h | h
    · simp [hdn j h q hq]
    · obtain rfl : j = i := by simpa using h
      simp [hT q hq]
  · intro j hj
    by_cases hji : j = i
    · subst hji
      simp only [if_true]
      exact hloc _ _ _ _ _ (fun q hq => by
        have : q ≠ j := fun e => by have := hT q hq; rw [e, hMi] at this; simp at this
        simp [this]) hG'
    · have hMj : M j = true := by simpa [hji] using hj
      simp only [hji, if_false]
      exact hloc _ _ _ _ _ (fun q hq => by
        have : q ≠ i := fun e => by have := hdn j hMj q hq; rw [e, hMi] at this; simp at this
        simp [this]) (hst j u (u j) hji (hG j hMj))
  · intro p q hp hq hpq b hb hb'
    by_cases h1 : p = i
    · subst h1
      have hqp : q ≠ p := fun e => hpq e.symm
      have hMq : M q = true := by simpa [hqp] using hq
      simp only [if_true, hqp, if_false] at hb hb'
      have := hlt _ _ _ _ (hG q hMq) b hb'
      have := hnew b hb
      omega
    · have hMp : M p = true := by simpa [h1] using hp
      by_cases h2 : q = i
      · subst h2
        simp only [if_true, h1, if_false] at hb hb'
        have := hlt _ _ _ _ (hG p hMp) b hb
        have := hnew b hb'
        omega
      · have hMq : M q = true := by simpa [h2] using hq
        simp only [h1, h2, if_false] at hb hb'
        exact hS p q hMp hMq hpq b hb hb'

theorem OwesSep.mk {T : Nat → List Nat} {G : Nat → (Nat → Value) → Value → World → Prop} {B : World → Prop} {blk : Nat → Value → List Nat} {a0 : Act} {i : Nat} (o : Oper) (ho : ops[i]? = some o) (hg : o.guard = none) (hs : ∀ cs b, o.op ≠ .select cs b)
    (h : ∀ (u : Nat → Value) (w : World), B w → (∀ j, j ∈ T i → G j u (u j) w) → (∀ j k, j ∈ T i → k ∈ T i → j ≠ k → ∀ b, b ∈ blk j (u j) → b ∉ blk k (u k)) → ∃ a1 : Act, o.op.operands.toList.map (rho ops a0 u i) = o.op.operands.toList.map a1.eval ∧ (∀ d, o.dst = some d → d < a1.tmps.size) ∧
      wpList P #[] (Via a1 o (fun v w' => B w' ∧ G i u v w' ∧ (∀ j u x, j ≠ i → G j u x w → G j u x w') ∧ ∀ b, b ∈ blk i v → w.heap.size ≤ b)) [o] a1 w) : OwesSep P ops Q T G B blk a0 i := by
  intro o' ho' u w hB hG hS a hev
  obtain rfl : o' = o := Option.some.inj (ho'.symm.trans ho)
  obtain ⟨a1, h1, h2, h3⟩ := h u w hB hG hS
  have h1' : ∀ x, x ∈ o'.op.operands → rho ops a0 u i x = a1.eval x := fun x hx => List.map_inj_left.1 h1 x (by simpa using hx)
  exact wp_via hg hs (fun x hx => (hev x hx).trans (h1' x hx)) h2 h3

end Go.Proofs.Ytmmojgopeaelcaa
