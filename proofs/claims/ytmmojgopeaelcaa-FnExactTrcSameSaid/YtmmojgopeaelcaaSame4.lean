/-
  Whether two lists of what happens are the same but for the order of what is apart: the law by maps; the program's literal.
-/
import Derived.Test.YtmmojgopeaelcaaSame3
import Derived.Test.YtmmojgopeaelcaaEvKey
namespace Go.Proofs.Ytmmojgopeaelcaa
set_option linter.unusedVariables false
set_option linter.unusedSimpArgs false
open Go.RowKit Go.ChangeShapes

/-- the function gives the last place, below t, of each -/
def LastF (b : List Ev) (t : Nat) (f : Ev → Option Int) : Prop := ∀ e, (f e = none ∧ ∀ i (h : i < b.length), i < t → b[i] ≠ e) ∨ ∃ (i : Nat) (h : i < b.length), i < t ∧ f e = some (i : Int) ∧ b[i] = e ∧ ∀ j (h' : j < b.length), i < j → j < t → b[j] ≠ e
theorem LastF.zero (b : List Ev) : LastF b 0 (fun _ => none) := fun e => .inl ⟨rfl, fun i _ h => absurd h (Nat.not_lt_zero i)⟩
theorem LastF.step {b : List Ev} {t : Nat} {f : Ev → Option Int} (h : LastF b t f) (ht : t < b.length) : LastF b (t + 1) (fun q => if q = b[t] then some (t : Int) else f q) := by
  intro e
  by_cases he : e = b[t]
  · subst he
    exact .inr ⟨t, ht, by omega, by simp, rfl, fun j _ h1 h2 => by omega⟩
  · simp only [if_neg he]
    rcases h e with ⟨h1, h2⟩ | ⟨i, hi, h1, h2, h3, h4⟩
    · refine .inl ⟨h1, fun i hi hit => ?_⟩
      by_cases e' : i = t
      · subst e'; exact fun q => he q.symm
      · exact h2 i hi (by omega)
    · refine .inr ⟨i, hi, by omega, h2, h3, fun j hj h5 h6 => ?_⟩
      by_cases e' : j = t
      · subst e'; exact fun q => he q.symm
      · exact h4 j hj h5 (by omega)
theorem LastF.mem {b : List Ev} {f : Ev → Option Int} (h : LastF b b.length f) (e : Ev) : (f e).isSome = true ↔ e ∈ b := by
  rcases h e with ⟨h1, h2⟩ | ⟨i, hi, h1, h2, h3, h4⟩
  · rw [h1]
    constructor
    · intro q; simp at q
    · intro hm
      obtain ⟨i, hi, rfl⟩ := List.mem_iff_getElem.1 hm
      exact absurd rfl (h2 i hi hi)
  · rw [h2]
    constructor
    · intro _; rw [← h3]; exact List.getElem_mem hi
    · intro _; rfl
theorem LastF.once {b : List Ev} {f : Ev → Option Int} (h : LastF b b.length f) (hb : onceB b = true) {e : Ev} (he : e ∈ b) : f e = some (evAt b e) := by
  rcases h e with ⟨h1, h2⟩ | ⟨i, hi, h1, h2, h3, h4⟩
  · obtain ⟨i, hi, rfl⟩ := List.mem_iff_getElem.1 he
    exact absurd rfl (h2 i hi hi)
  · unfold onceB at hb
    rw [decide_eq_true_iff] at hb
    rw [h2, ← h3, hb i hi]

/-- nothing speaks against the i-th -/
def CondI (c : Bus) (a : List Ev) (f : Ev → Option Int) (i : Nat) (h : i < a.length) : Prop := (f a[i]).isSome = true ∧ (∀ j (h' : j < a.length), j < i → a[j] ≠ a[i]) ∧ ∀ j (h' : j < a.length), j < i → apartB c a[j] a[i] = true ∨ (f a[j]).getD 0 ≤ (f a[i]).getD 0

theorem same_cond {c : Bus} {a b : List Ev} {f : Ev → Option Int} (ha : onceB a = true) (hb : onceB b = true) (ho : orderB c a b = true) (hf : LastF b b.length f) : ∀ i (h : i < a.length), CondI c a f i h := by
  intro i h
  unfold orderB at ho
  rw [decide_eq_true_iff] at ho
  have hm : ∀ k (hk : k < a.length), a[k] ∈ b := fun k hk => evAt_mem.1 (ho k hk).1
  refine ⟨(hf.mem _).2 (hm i h), fun j hj hji => List.pairwise_iff_getElem.1 (once_nodup.1 ha) j i hj h hji, fun j hj hji => ?_⟩
  rcases (ho i h).2 j hj hji with h1 | h1
  · exact .inl h1
  · right
    rw [hf.once hb (hm j hj), hf.once hb (hm i h)]
    exact h1

theorem nodup_of_subset {α : Type} [DecidableEq α] : ∀ (a b : List α), a.Nodup → (∀ x, x ∈ a → x ∈ b) → a.length = b.length → b.Nodup := by
  intro a
  induction a with
  | nil =>
    intro b _ _ hl
    have : b = [] := List.eq_nil_of_length_eq_zero hl.symm
    rw [this]; exact List.nodup_nil
  | cons x a ih =>
    intro b hn hs hl
    have hx : x ∈ b := hs x (List.mem_cons_self ..)
    have hp := List.perm_cons_erase hx
    rw [hp.nodup_iff]
    obtain ⟨hxa, hna⟩ := List.nodup_cons.1 hn
    have hsub : ∀ y, y ∈ a → y ∈ b.erase x := fun y hy => (List.mem_erase_of_ne (fun e => hxa (by rw [← e]; exact hy))).2 (hs y (List.mem_cons_of_mem _ hy))
    have hl2 : a.length = (b.erase x).length := by
      rw [List.length_erase_of_mem hx]
      simp only [List.length_cons] at hl
      omega
    have hnd := ih (b.erase x) hna hsub hl2
    refine List.nodup_cons.2 ⟨fun hm => ?_, hnd⟩
    -- x among the rest: then x :: a is too much for it
    have h1 : ∀ y, y ∈ x :: a → y ∈ b.erase x := fun y hy => by
      rcases List.mem_cons.1 hy with rfl | hy
      · exact hm
      · exact hsub y hy
    have h2 : (x :: a).length ≤ (b.erase x).length := by
      clear hp hx hs hl hl2 hsub hnd ih hm
      have main : ∀ (p q : List α), p.Nodup → (∀ y, y ∈ p → y ∈ q) → p.length ≤ q.length := by
        intro p
        induction p with
        | nil => intro q _ _; simp
        | cons y p ih =>
          intro q hn hs
          have hy : y ∈ q := hs y (List.mem_cons_self ..)
          obtain ⟨h3, h4⟩ := List.nodup_cons.1 hn
          have := ih (q.erase y) h4 fun z hz => (List.mem_erase_of_ne (fun e => h3 (by rw [← e]; exact hz))).2 (hs z (List.mem_cons_of_mem _ hz))
          rw [List.length_erase_of_mem hy] at this
          have hq : 0 < q.length := List.length_pos_of_mem hy
          simp only [List.length_cons]
          omega
      exact main _ _ hn h1
    simp only [List.length_cons] at h2
    omega

theorem cond_same {c : Bus} {a b : List Ev} {f : Ev → Option Int} (h : ∀ i (h : i < a.length), CondI c a f i h) (hl : a.length = b.length) (hf : LastF b b.length f) : onceB a = true ∧ onceB b = true ∧ orderB c a b = true := by
  have hna : a.Nodup := List.pairwise_iff_getElem.2 fun i j hi hj hij => (h j hj).2.1 i hi hij
  have hm : ∀ x, x ∈ a → x ∈ b := fun x hx => by
    obtain ⟨i, hi, rfl⟩ := List.mem_iff_getElem.1 hx
    exact (hf.mem _).1 (h i hi).1
  have hnb := nodup_of_subset a b hna hm hl
  have hb := once_nodup.2 hnb
  refine ⟨once_nodup.2 hna, hb, ?_⟩
  unfold orderB
  refine decide_eq_true fun k hk => ⟨evAt_mem.2 (hm _ (List.getElem_mem hk)), fun j hj hjk => ?_⟩
  rcases (h k hk).2.2 j hj hjk with h1 | h1
  · exact .inl h1
  · right
    rw [hf.once hb (hm _ (List.getElem_mem hj)), hf.once hb (hm _ (List.getElem_mem hk))] at h1
    exact h1

theorem evOk_key {c : Bus} (hb : busOk c = true) {e : Ev} (h : evOk c e = true) : ∃ l, keyOf Try.prog 39 (evV e) = some l := by
  have ha := evOk_asksB h
  obtain ⟨k, i, hk, hi, h1, h2⟩ := asks_at (busOk_progs hb) ha
  have hl := busOk_progs hb
  have h12 := busOk_len hb hk
  rw [evOk_asks] at h
  simp only [Bool.and_eq_true] at h
  have h0 := inB_true.1 h.1
  exact ev_key e (by omega) (by rw [h1]; omega) (by rw [h2]; omega)

/-- something from which it is not apart stands behind it -/
def lateB (c : Bus) (f : Ev → Option Int) (e : Ev) (z : Int) (x : Ev) : Bool := !apartB c x e && decide (z < (f x).getD 0)

set_option maxRecDepth 100000 in
set_option maxHeartbeats 3200000 in
theorem late_any (cb eb ab kb bm mb : Nat) (bc : Bus) (f : Ev → Option Int) (e : Ev) (z : Int) (hbus : busOk bc = true) (he : evOk bc e = true) (v0 v1 v2 : Value) (fp2 : List Nat) (x : Ev) (hx : evOk bc x = true) (w : World)
    (x0 : w.cell? ⟨cb, 0, none⟩ = some v0) (x1 : w.cell? ⟨cb, 1, none⟩ = some v1) (x2 : w.cell? ⟨cb, 2, none⟩ = some v2) (g2 : SlR 1 (slR 7 reqR) w bc.progs v2 fp2)
    (y0 : w.cell? ⟨eb, 0, none⟩ = some (.int .i64 e.kind)) (y1 : w.cell? ⟨eb, 1, none⟩ = some (.int .i64 e.who)) (y2 : w.cell? ⟨eb, 2, none⟩ = some (.int .i64 e.n))
    (ha : w.cell? ⟨ab, 0, none⟩ = some (.map (some bm))) (hm : IntM Try.prog 39 3 evV bm mb w f) (hk : w.cell? ⟨kb, 0, none⟩ = some (.int .i64 z)) :
    Calls Try.prog 99 #[.agg #[.int .i64 x.kind, .int .i64 x.who, .int .i64 x.n], .pointer (some ⟨cb, 0, none⟩), .pointer (some ⟨eb, 0, none⟩), .pointer (some ⟨ab, 0, none⟩), .pointer (some ⟨kb, 0, none⟩)] w fun e' w' => e' = .returned (.bool (lateB bc f e z x)) ∧ Below w.heap.size w w' := by
  obtain ⟨w0, hw0⟩ : ∃ w0, w0 = w.alloc (.cells #[.int .i64 x.kind, .int .i64 x.who, .int .i64 x.n] 39) := ⟨_, rfl⟩
  have hb : Below w.heap.size w w0 := by rw [hw0]; exact below_alloc _ _
  have z0 : w0.cell? ⟨w.heap.size, 0, none⟩ = some (.int .i64 x.kind) := by rw [hw0]; exact alloc1_new _ _ _ 0 rfl
  have z1 : w0.cell? ⟨w.heap.size, 1, none⟩ = some (.int .i64 x.who) := by rw [hw0]; exact alloc1_new _ _ _ 1 rfl
  have z2 : w0.cell? ⟨w.heap.size, 2, none⟩ = some (.int .i64 x.n) := by rw [hw0]; exact alloc1_new _ _ _ 2 rfl
  replace x0 := keep_cell hb x0
  replace x1 := keep_cell hb x1
  replace x2 := keep_cell hb x2
  replace y0 := keep_cell hb y0
  replace y1 := keep_cell hb y1
  replace y2 := keep_cell hb y2
  replace ha := keep_cell hb ha
  replace hk := keep_cell hb hk
  have HM := Lib.hid (hm.below hb)
  have G2 := Lib.hid (SlR.below (slR_fits reqR_fits) g2 hb)
  have B := Lib.hid hb
  have HPl := Lib.hid (busOk_progs hbus)
  have HA1 := Lib.hid (evOk_asksB hx)
  have HA2 := Lib.hid (evOk_asksB he)
  obtain ⟨l, hl⟩ := evOk_key hbus hx
  have HK := Lib.hid hl
  obtain ⟨p, hp⟩ : ∃ z, apartB bc x e = z := ⟨_, rfl⟩
  have HAp := Lib.hid hp
  obtain ⟨y, hy⟩ : ∃ z, (f x).getD 0 = z := ⟨_, rfl⟩
  have HY := Lib.hid hy
  clear hb hm g2 hbus hx he hl hp hy
  go_enter Try.func99, Try.ntmps99
  go_upto_region 1 with fail
  rw [← hw0]
  clear hw0
  cases p
  · skip
    have hst : ∀ F, F ∈ [FEq (.agg #[v0, v1, v2]), FEq (.agg #[.int .i64 x.kind, .int .i64 x.who, .int .i64 x.n]), FEq (.agg #[.int .i64 e.kind, .int .i64 e.who, .int .i64 e.n]), FEq (.bool false), FEq (.bool true), FEq (.bool true), FEq (.map (some bm)), FEq (.agg #[.int .i64 x.kind, .int .i64 x.who, .int .i64 x.n]), FEq (.int .i64 y), FEq (.int .i64 z)] → Stable [] F := by
      simp only [List.forall_mem_cons]
      exact ⟨stEq _ _, stEq _ _, stEq _ _, stEq _ _, stEq _ _, stEq _ _, stEq _ _, stEq _ _, stEq _ _, stEq _ _, fun _ h => by simp at h⟩
    refine wp_region_tail (by kernel_rfl) (fun i => ([[], [], [], [0, 1, 2], [0, 1, 2, 3], [0, 1, 2, 3, 4], [0, 1, 2, 3, 4, 5], [0, 1, 2, 3, 4, 5], [0, 1, 2, 3, 4, 5, 6, 7], [0, 1, 2, 3, 4, 5], [0, 1, 2, 3, 4, 5, 6, 7, 8, 9], [0, 1, 2, 3, 4, 5, 6, 7, 8, 9, 10], [0, 1, 2, 3, 4, 5, 6, 7, 8, 9, 10, 11]] : List (List Nat)).getD i []) (facts [FEq (.agg #[v0, v1, v2]), FEq (.agg #[.int .i64 x.kind, .int .i64 x.who, .int .i64 x.n]), FEq (.agg #[.int .i64 e.kind, .int .i64 e.who, .int .i64 e.n]), FEq (.bool false), FEq (.bool true), FEq (.bool true), FEq (.map (some bm)), FEq (.agg #[.int .i64 x.kind, .int .i64 x.who, .int .i64 x.n]), FEq (.int .i64 y), FEq (.int .i64 z)]) (fun m w' => Below w0.heap.size w0 w') 19 13 10 [some 7, some 8, some 9, some 10, some 11, some 12, some 13, some 14, some 15, some 16] _ rfl rfl (by decide) rfl rfl (by kernel_rfl) (by kernel_rfl) [(5, true)] (by kernel_rfl) (fun g b hm v w h => by simp only [List.mem_cons, List.not_mem_nil, or_false, Prod.mk.injEq] at hm; obtain ⟨rfl, rfl⟩ := hm; exact h) ?h0 (all_lt (n := 10) ?hop) ?hend
    case h0 => exact (Below.refl _ _).drew
    case hop =>
      refine ⟨⟨⟨⟨⟨⟨⟨⟨⟨⟨trivial, ?_⟩, ?_⟩, ?_⟩, ?_⟩, ?_⟩, ?_⟩, ?_⟩, ?_⟩, ?_⟩, ?_⟩
      · refine Owes.mk _ rfl rfl (fun _ _ h => by cases h) fun u m w' hm hI hR => ⟨⟨#[undef, .pointer (some ⟨cb, 0, none⟩), undef, undef, undef, undef, undef, undef, undef, undef, undef, undef, undef, undef, undef, undef, undef, undef, undef], []⟩, rfl, fun d hd => by cases hd; exact (by decide : 7 < 19), ?_⟩
        have k0 := keep_cell hI x0
        have k1 := keep_cell hI x1
        have k2 := keep_cell hI x2
        have k3 := keep_cell hI y0
        have k4 := keep_cell hI y1
        have k5 := keep_cell hI y2
        have k6 := keep_cell hI z0
        have k7 := keep_cell hI z1
        have k8 := keep_cell hI z2
        have k9 := keep_cell hI ha
        have k10 := keep_cell hI hk
        have HI := Lib.hid hI
        clear hI hst hR
        go_wp2
        exact ⟨rfl, _, rfl, rfl, HI.out, fun _ _ h => h⟩
      · refine Owes.mk _ rfl rfl (fun _ _ h => by cases h) fun u m w' hm hI hR => ⟨⟨#[undef, undef, undef, undef, undef, .pointer (some ⟨w.heap.size, 0, none⟩), undef, undef, undef, undef, undef, undef, undef, undef, undef, undef, undef, undef, undef], []⟩, rfl, fun d hd => by cases hd; exact (by decide : 8 < 19), ?_⟩
        have k0 := keep_cell hI x0
        have k1 := keep_cell hI x1
        have k2 := keep_cell hI x2
        have k3 := keep_cell hI y0
        have k4 := keep_cell hI y1
        have k5 := keep_cell hI y2
        have k6 := keep_cell hI z0
        have k7 := keep_cell hI z1
        have k8 := keep_cell hI z2
        have k9 := keep_cell hI ha
        have k10 := keep_cell hI hk
        have HI := Lib.hid hI
        clear hI hst hR
        go_wp2
        exact ⟨rfl, _, rfl, rfl, HI.out, fun _ _ h => h⟩
      · refine Owes.mk _ rfl rfl (fun _ _ h => by cases h) fun u m w' hm hI hR => ⟨⟨#[undef, undef, .pointer (some ⟨eb, 0, none⟩), undef, undef, undef, undef, undef, undef, undef, undef, undef, undef, undef, undef, undef, undef, undef, undef], []⟩, rfl, fun d hd => by cases hd; exact (by decide : 9 < 19), ?_⟩
        have k0 := keep_cell hI x0
        have k1 := keep_cell hI x1
        have k2 := keep_cell hI x2
        have k3 := keep_cell hI y0
        have k4 := keep_cell hI y1
        have k5 := keep_cell hI y2
        have k6 := keep_cell hI z0
        have k7 := keep_cell hI z1
        have k8 := keep_cell hI z2
        have k9 := keep_cell hI ha
        have k10 := keep_cell hI hk
        have HI := Lib.hid hI
        clear hI hst hR
        go_wp2
        exact ⟨rfl, _, rfl, rfl, HI.out, fun _ _ h => h⟩
      · refine Owes.mk _ rfl rfl (fun _ _ h => by cases h) fun u m w' hm hI hR => ⟨⟨#[undef, undef, undef, undef, undef, undef, undef, u 0, u 1, u 2, undef, undef, undef, undef, undef, undef, undef, undef, undef], []⟩, rfl, fun d hd => by cases hd; exact (by decide : 10 < 19), ?_⟩
        have e0 : u 0 = _ := hR 0 (by decide)
        have e1 : u 1 = _ := hR 1 (by decide)
        have e2 : u 2 = _ := hR 2 (by decide)
        have k0 := keep_cell hI x0
        have k1 := keep_cell hI x1
        have k2 := keep_cell hI x2
        have k3 := keep_cell hI y0
        have k4 := keep_cell hI y1
        have k5 := keep_cell hI y2
        have k6 := keep_cell hI z0
        have k7 := keep_cell hI z1
        have k8 := keep_cell hI z2
        have k9 := keep_cell hI ha
        have k10 := keep_cell hI hk
        rw [e0, e1, e2]
        clear e0 e1 e2
        have G2b := Lib.hid (SlR.below (slR_fits reqR_fits) G2.out hI)
        have HI := Lib.hid hI
        clear hI hR
        go_wp2_with fail
        refine (iApart_any bc x e HPl.out HA1.out HA2.out _ _ _ fp2 _ G2b.out).mono ?_
        rw [HAp.out]
        rintro e w5 ⟨rfl, b5⟩
        have HS5 := Lib.hid (facts_stable hst (b5.chg []))
        have HI5 := Lib.hid (HI.out.trans (b5.mono HI.out.size))
        clear b5 hst
        go_wp2
        exact ⟨rfl, _, rfl, rfl, HI5.out, HS5.out⟩
      · refine Owes.mk _ rfl rfl (fun _ _ h => by cases h) fun u m w' hm hI hR => ⟨⟨#[undef, undef, undef, undef, undef, undef, undef, undef, undef, undef, u 3, undef, undef, undef, undef, undef, undef, undef, undef], []⟩, rfl, fun d hd => by cases hd; exact (by decide : 11 < 19), ?_⟩
        have e3 : u 3 = _ := hR 3 (by decide)
        have k0 := keep_cell hI x0
        have k1 := keep_cell hI x1
        have k2 := keep_cell hI x2
        have k3 := keep_cell hI y0
        have k4 := keep_cell hI y1
        have k5 := keep_cell hI y2
        have k6 := keep_cell hI z0
        have k7 := keep_cell hI z1
        have k8 := keep_cell hI z2
        have k9 := keep_cell hI ha
        have k10 := keep_cell hI hk
        have HI := Lib.hid hI
        clear hI hst hR
        rw [e3]
        clear e3
        go_wp2
        exact ⟨rfl, _, rfl, rfl, HI.out, fun _ _ h => h⟩
      · refine Owes.mk _ rfl rfl (fun _ _ h => by cases h) fun u m w' hm hI hR => ⟨⟨#[undef, undef, undef, undef, undef, undef, undef, undef, undef, undef, undef, u 4, undef, undef, undef, undef, undef, undef, undef], []⟩, rfl, fun d hd => by cases hd; exact (by decide : 12 < 19), ?_⟩
        have e4 : u 4 = _ := hR 4 (by decide)
        have k0 := keep_cell hI x0
        have k1 := keep_cell hI x1
        have k2 := keep_cell hI x2
        have k3 := keep_cell hI y0
        have k4 := keep_cell hI y1
        have k5 := keep_cell hI y2
        have k6 := keep_cell hI z0
        have k7 := keep_cell hI z1
        have k8 := keep_cell hI z2
        have k9 := keep_cell hI ha
        have k10 := keep_cell hI hk
        have HI := Lib.hid hI
        clear hI hst hR
        rw [e4]
        clear e4
        go_wp2
        exact ⟨rfl, _, rfl, rfl, HI.out, fun _ _ h => h⟩
      · refine Owes.mkG _ _ rfl rfl (fun _ _ h => by cases h) fun u m w' hm hI hR => ⟨⟨#[undef, undef, undef, .pointer (some ⟨ab, 0, none⟩), undef, undef, undef, undef, undef, undef, undef, undef, undef, undef, undef, undef, undef, undef, undef], []⟩, rfl, fun d hd => by cases hd; exact (by decide : 13 < 19), ?_⟩
        have k0 := keep_cell hI x0
        have k1 := keep_cell hI x1
        have k2 := keep_cell hI x2
        have k3 := keep_cell hI y0
        have k4 := keep_cell hI y1
        have k5 := keep_cell hI y2
        have k6 := keep_cell hI z0
        have k7 := keep_cell hI z1
        have k8 := keep_cell hI z2
        have k9 := keep_cell hI ha
        have k10 := keep_cell hI hk
        have HI := Lib.hid hI
        clear hI hst hR
        go_wp2
        exact ⟨rfl, _, rfl, rfl, HI.out, fun _ _ h => h⟩
      · refine Owes.mkG _ _ rfl rfl (fun _ _ h => by cases h) fun u m w' hm hI hR => ⟨⟨#[undef, undef, undef, undef, undef, .pointer (some ⟨w.heap.size, 0, none⟩), undef, undef, undef, undef, undef, undef, undef, undef, undef, undef, undef, undef, undef], []⟩, rfl, fun d hd => by cases hd; exact (by decide : 14 < 19), ?_⟩
        have k0 := keep_cell hI x0
        have k1 := keep_cell hI x1
        have k2 := keep_cell hI x2
        have k3 := keep_cell hI y0
        have k4 := keep_cell hI y1
        have k5 := keep_cell hI y2
        have k6 := keep_cell hI z0
        have k7 := keep_cell hI z1
        have k8 := keep_cell hI z2
        have k9 := keep_cell hI ha
        have k10 := keep_cell hI hk
        have HI := Lib.hid hI
        clear hI hst hR
        go_wp2
        exact ⟨rfl, _, rfl, rfl, HI.out, fun _ _ h => h⟩
      · refine Owes.mkG _ _ rfl rfl (fun _ _ h => by cases h) fun u m w' hm hI hR => ⟨⟨#[undef, undef, undef, undef, undef, undef, undef, undef, undef, undef, undef, undef, undef, u 6, u 7, undef, undef, undef, undef], []⟩, rfl, fun d hd => by cases hd; exact (by decide : 15 < 19), ?_⟩
        have e6 : u 6 = _ := hR 6 (by decide)
        have e7 : u 7 = _ := hR 7 (by decide)
        have k0 := keep_cell hI x0
        have k1 := keep_cell hI x1
        have k2 := keep_cell hI x2
        have k3 := keep_cell hI y0
        have k4 := keep_cell hI y1
        have k5 := keep_cell hI y2
        have k6 := keep_cell hI z0
        have k7 := keep_cell hI z1
        have k8 := keep_cell hI z2
        have k9 := keep_cell hI ha
        have k10 := keep_cell hI hk
        rw [e6, e7]
        clear e6 e7
        refine wpList_lookM rfl _ _ 135 rfl evKeyed Try.underlying135 Try.underlying3 (zero_int _) rfl (HM.out.below hI) x l rfl HK.out ?_
        rw [HY.out]
        exact ⟨rfl, _, rfl, rfl, hI, fun _ _ h => h⟩
      · refine Owes.mkG _ _ rfl rfl (fun _ _ h => by cases h) fun u m w' hm hI hR => ⟨⟨#[undef, undef, undef, undef, .pointer (some ⟨kb, 0, none⟩), undef, undef, undef, undef, undef, undef, undef, undef, undef, undef, undef, undef, undef, undef], []⟩, rfl, fun d hd => by cases hd; exact (by decide : 16 < 19), ?_⟩
        have k0 := keep_cell hI x0
        have k1 := keep_cell hI x1
        have k2 := keep_cell hI x2
        have k3 := keep_cell hI y0
        have k4 := keep_cell hI y1
        have k5 := keep_cell hI y2
        have k6 := keep_cell hI z0
        have k7 := keep_cell hI z1
        have k8 := keep_cell hI z2
        have k9 := keep_cell hI ha
        have k10 := keep_cell hI hk
        have HI := Lib.hid hI
        clear hI hst hR
        go_wp2
        exact ⟨rfl, _, rfl, rfl, HI.out, fun _ _ h => h⟩
    case hend =>
      intro u w' hI hR
      simp only [setAll, List.set_cons_zero, List.set_cons_succ]
      have e5 : u 5 = _ := hR 5 (by decide)
      have e8 : u 8 = _ := hR 8 (by decide)
      have e9 : u 9 = _ := hR 9 (by decide)
      rw [e5, e8, e9]
      have HB5 := Lib.hid (B.out.trans (hI.mono B.out.size))
      clear hR hst hI e5 e8 e9
      cases hq : decide (z < y)
      all_goals
        have HQ := Lib.hid hq
        go_wp2
        go_ret
        exact ⟨ret_bool (by unfold lateB; rw [HAp.out, HY.out, HQ.out]; rfl), HB5.out⟩
  · skip
    have hst : ∀ F, F ∈ [FEq (.agg #[v0, v1, v2]), FEq (.agg #[.int .i64 x.kind, .int .i64 x.who, .int .i64 x.n]), FEq (.agg #[.int .i64 e.kind, .int .i64 e.who, .int .i64 e.n]), FEq (.bool true), FEq (.bool false), FEq (.bool false), FEq undef, FEq undef, FEq undef, FEq undef] → Stable [] F := by
      simp only [List.forall_mem_cons]
      exact ⟨stEq _ _, stEq _ _, stEq _ _, stEq _ _, stEq _ _, stEq _ _, stEq _ _, stEq _ _, stEq _ _, stEq _ _, fun _ h => by simp at h⟩
    refine wp_region_skip (by kernel_rfl) (fun i => ([[], [], [], [0, 1, 2], [0, 1, 2, 3], [0, 1, 2, 3, 4], [0, 1, 2, 3, 4, 5], [0, 1, 2, 3, 4, 5], [0, 1, 2, 3, 4, 5, 6, 7], [0, 1, 2, 3, 4, 5], [0, 1, 2, 3, 4, 5, 6, 7, 8, 9], [0, 1, 2, 3, 4, 5, 6, 7, 8, 9, 10], [0, 1, 2, 3, 4, 5, 6, 7, 8, 9, 10, 11]] : List (List Nat)).getD i []) (facts [FEq (.agg #[v0, v1, v2]), FEq (.agg #[.int .i64 x.kind, .int .i64 x.who, .int .i64 x.n]), FEq (.agg #[.int .i64 e.kind, .int .i64 e.who, .int .i64 e.n]), FEq (.bool true), FEq (.bool false), FEq (.bool false), FEq undef, FEq undef, FEq undef, FEq undef]) (fun m w' => Below w0.heap.size w0 w') 19 13 10 [some 7, some 8, some 9, some 10, some 11, some 12, some 13, some 14, some 15, some 16] _ rfl rfl (by decide) rfl rfl (by kernel_rfl) (by kernel_rfl) [6, 7, 8, 9] [(5, false)] (by kernel_rfl) (fun g b hm v w h => by simp only [List.mem_cons, List.not_mem_nil, or_false, Prod.mk.injEq] at hm; obtain ⟨rfl, rfl⟩ := hm; exact h) (fun i hi w => by simp only [List.mem_cons, List.not_mem_nil, or_false] at hi; rcases hi with rfl | rfl | rfl | rfl <;> rfl) (fun _ _ h => h) ?h0 (all_lt (n := 10) ?hop) ?hend
    case h0 => exact (Below.refl _ _).drew
    case hop =>
      refine ⟨⟨⟨⟨⟨⟨⟨⟨⟨⟨trivial, ?_⟩, ?_⟩, ?_⟩, ?_⟩, ?_⟩, ?_⟩, ?_⟩, ?_⟩, ?_⟩, ?_⟩
      · refine .inr (Owes.mk _ rfl rfl (fun _ _ h => by cases h) fun u m w' hm hI hR => ⟨⟨#[undef, .pointer (some ⟨cb, 0, none⟩), undef, undef, undef, undef, undef, undef, undef, undef, undef, undef, undef, undef, undef, undef, undef, undef, undef], []⟩, rfl, fun d hd => by cases hd; exact (by decide : 7 < 19), ?_⟩)
        have k0 := keep_cell hI x0
        have k1 := keep_cell hI x1
        have k2 := keep_cell hI x2
        have k3 := keep_cell hI y0
        have k4 := keep_cell hI y1
        have k5 := keep_cell hI y2
        have k6 := keep_cell hI z0
        have k7 := keep_cell hI z1
        have k8 := keep_cell hI z2
        have HI := Lib.hid hI
        clear hI hst hR
        go_wp2
        exact ⟨rfl, _, rfl, rfl, HI.out, fun _ _ h => h⟩
      · refine .inr (Owes.mk _ rfl rfl (fun _ _ h => by cases h) fun u m w' hm hI hR => ⟨⟨#[undef, undef, undef, undef, undef, .pointer (some ⟨w.heap.size, 0, none⟩), undef, undef, undef, undef, undef, undef, undef, undef, undef, undef, undef, undef, undef], []⟩, rfl, fun d hd => by cases hd; exact (by decide : 8 < 19), ?_⟩)
        have k0 := keep_cell hI x0
        have k1 := keep_cell hI x1
        have k2 := keep_cell hI x2
        have k3 := keep_cell hI y0
        have k4 := keep_cell hI y1
        have k5 := keep_cell hI y2
        have k6 := keep_cell hI z0
        have k7 := keep_cell hI z1
        have k8 := keep_cell hI z2
        have HI := Lib.hid hI
        clear hI hst hR
        go_wp2
        exact ⟨rfl, _, rfl, rfl, HI.out, fun _ _ h => h⟩
      · refine .inr (Owes.mk _ rfl rfl (fun _ _ h => by cases h) fun u m w' hm hI hR => ⟨⟨#[undef, undef, .pointer (some ⟨eb, 0, none⟩), undef, undef, undef, undef, undef, undef, undef, undef, undef, undef, undef, undef, undef, undef, undef, undef], []⟩, rfl, fun d hd => by cases hd; exact (by decide : 9 < 19), ?_⟩)
        have k0 := keep_cell hI x0
        have k1 := keep_cell hI x1
        have k2 := keep_cell hI x2
        have k3 := keep_cell hI y0
        have k4 := keep_cell hI y1
        have k5 := keep_cell hI y2
        have k6 := keep_cell hI z0
        have k7 := keep_cell hI z1
        have k8 := keep_cell hI z2
        have HI := Lib.hid hI
        clear hI hst hR
        go_wp2
        exact ⟨rfl, _, rfl, rfl, HI.out, fun _ _ h => h⟩
      · refine .inr (Owes.mk _ rfl rfl (fun _ _ h => by cases h) fun u m w' hm hI hR => ⟨⟨#[undef, undef, undef, undef, undef, undef, undef, u 0, u 1, u 2, undef, undef, undef, undef, undef, undef, undef, undef, undef], []⟩, rfl, fun d hd => by cases hd; exact (by decide : 10 < 19), ?_⟩)
        have e0 : u 0 = _ := hR 0 (by decide)
        have e1 : u 1 = _ := hR 1 (by decide)
        have e2 : u 2 = _ := hR 2 (by decide)
        have k0 := keep_cell hI x0
        have k1 := keep_cell hI x1
        have k2 := keep_cell hI x2
        have k3 := keep_cell hI y0
        have k4 := keep_cell hI y1
        have k5 := keep_cell hI y2
        have k6 := keep_cell hI z0
        have k7 := keep_cell hI z1
        have k8 := keep_cell hI z2
        rw [e0, e1, e2]
        clear e0 e1 e2
        have G2b := Lib.hid (SlR.below (slR_fits reqR_fits) G2.out hI)
        have HI := Lib.hid hI
        clear hI hR
        go_wp2_with fail
        refine (iApart_any bc x e HPl.out HA1.out HA2.out _ _ _ fp2 _ G2b.out).mono ?_
        rw [HAp.out]
        rintro e w5 ⟨rfl, b5⟩
        have HS5 := Lib.hid (facts_stable hst (b5.chg []))
        have HI5 := Lib.hid (HI.out.trans (b5.mono HI.out.size))
        clear b5 hst
        go_wp2
        exact ⟨rfl, _, rfl, rfl, HI5.out, HS5.out⟩
      · refine .inr (Owes.mk _ rfl rfl (fun _ _ h => by cases h) fun u m w' hm hI hR => ⟨⟨#[undef, undef, undef, undef, undef, undef, undef, undef, undef, undef, u 3, undef, undef, undef, undef, undef, undef, undef, undef], []⟩, rfl, fun d hd => by cases hd; exact (by decide : 11 < 19), ?_⟩)
        have e3 : u 3 = _ := hR 3 (by decide)
        have k0 := keep_cell hI x0
        have k1 := keep_cell hI x1
        have k2 := keep_cell hI x2
        have k3 := keep_cell hI y0
        have k4 := keep_cell hI y1
        have k5 := keep_cell hI y2
        have k6 := keep_cell hI z0
        have k7 := keep_cell hI z1
        have k8 := keep_cell hI z2
        have HI := Lib.hid hI
        clear hI hst hR
        rw [e3]
        clear e3
        go_wp2
        exact ⟨rfl, _, rfl, rfl, HI.out, fun _ _ h => h⟩
      · refine .inr (Owes.mk _ rfl rfl (fun _ _ h => by cases h) fun u m w' hm hI hR => ⟨⟨#[undef, undef, undef, undef, undef, undef, undef, undef, undef, undef, undef, u 4, undef, undef, undef, undef, undef, undef, undef], []⟩, rfl, fun d hd => by cases hd; exact (by decide : 12 < 19), ?_⟩)
        have e4 : u 4 = _ := hR 4 (by decide)
        have k0 := keep_cell hI x0
        have k1 := keep_cell hI x1
        have k2 := keep_cell hI x2
        have k3 := keep_cell hI y0
        have k4 := keep_cell hI y1
        have k5 := keep_cell hI y2
        have k6 := keep_cell hI z0
        have k7 := keep_cell hI z1
        have k8 := keep_cell hI z2
        have HI := Lib.hid hI
        clear hI hst hR
        rw [e4]
        clear e4
        go_wp2
        exact ⟨rfl, _, rfl, rfl, HI.out, fun _ _ h => h⟩
      · exact .inl (by decide)
      · exact .inl (by decide)
      · exact .inl (by decide)
      · exact .inl (by decide)
    case hend =>
      intro u w' hI hR
      simp only [setAll, List.set_cons_zero, List.set_cons_succ]
      have e5 : u 5 = _ := hR 5 (by decide)
      rw [e5]
      have HB5 := Lib.hid (B.out.trans (hI.mono B.out.size))
      clear hR hst hI e5
      go_wp2
      go_ret
      exact ⟨ret_bool (by unfold lateB; rw [HAp.out]; rfl), HB5.out⟩

end Go.Proofs.Ytmmojgopeaelcaa
