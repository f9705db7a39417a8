/-
  Proved: the Go function laws.FnMapLess returns true for every code, and the code reads afterwards as before: of ranges that are ok without one of them each of its addresses is of SlvNone, and all others are of what they were.
  Conditions: none.
-/
import Derived.Test.YtlamjbcacminmaaLift
import Derived.Test.YtlamjbcacminmaaDMapOk
import Derived.Test.YtlamjbcacminmaaMapOk
import Derived.Test.YtlamjbcacminmaaFacts2
import Derived.Test.YtlamjbcacminmaaRegion3
import Derived.Test.YtlamjbcacminmaaCr
namespace Go.Proofs.Ytlamjbcacminmaa.fnMapLess
set_option linter.unusedVariables false
set_option linter.unusedSimpArgs false
open Go.ChangeShapes Go.WideShapes Go.ChangeAt Go.RowKit

theorem _root_.List.getElem?_take_some {α : Type} {l : List α} {m j : Nat} {u : α} (h : (l.take m)[j]? = some u) : l[j]? = some u := by
  rw [List.getElem?_take] at h
  split at h
  · exact h
  · simp at h

theorem MrC_one {l : List MR} : ∀ u, u ∈ l.flatMap MrC → u.oneCell' = true := by
  intro u hu
  rw [List.mem_flatMap] at hu
  obtain ⟨x, _, hx⟩ := hu
  simp only [MrC, List.mem_cons, List.not_mem_nil, or_false] at hx
  rcases hx with rfl | rfl | rfl | rfl <;> rfl

/-- what a range by itself must be -/
def alone (x : MR) : Prop := inB x.fr 0 63 = true ∧ inB x.to x.fr 63 = true ∧ inB x.sl 0 2 = true
theorem mapOk_iff {l : List MR} : mapOk l = true ↔ l.length ≤ 4 ∧ (∀ x, x ∈ l → alone x) ∧ l.Pairwise (fun x y => meets y x = false) := by
  unfold mapOk
  rw [Bool.and_eq_true, decide_eq_true_eq, decide_eq_true_eq, List.pairwise_iff_getElem]
  constructor
  · rintro ⟨h0, h⟩
    refine ⟨h0, fun x hx => ?_, fun i j hi hj hij => ?_⟩
    · obtain ⟨k, hk, rfl⟩ := List.mem_iff_getElem.1 hx
      have := h k hk
      unfold rowOk at this
      simp only [Bool.and_eq_true] at this
      exact ⟨this.1, this.2.1, this.2.2.1⟩
    · have := h j hj
      unfold rowOk at this
      simp only [Bool.and_eq_true, Bool.not_eq_true'] at this
      have h3 := this.2.2.2
      rw [List.any_eq_false] at h3
      simpa using h3 l[i] (List.mem_iff_getElem.2 ⟨i, by simp; omega, by simp⟩)
  · rintro ⟨h0, h1, h2⟩
    refine ⟨h0, fun k hk => ?_⟩
    unfold rowOk
    simp only [Bool.and_eq_true, Bool.not_eq_true']
    obtain ⟨a, b, c⟩ := h1 l[k] (List.getElem_mem hk)
    refine ⟨a, b, c, ?_⟩
    rw [List.any_eq_false]
    intro x hx
    obtain ⟨i, hi, rfl⟩ := List.mem_iff_getElem.1 hx
    have hik : i < k := by simp at hi; omega
    simpa using h2 i k (by omega) hk hik
theorem mapOk_sub {l m : List MR} (h : mapOk l = true) (hs : m.Sublist l) : mapOk m = true := by
  rw [mapOk_iff] at h ⊢
  exact ⟨Nat.le_trans hs.length_le h.1, fun x hx => h.2.1 x (hs.subset hx), h.2.2.sublist hs⟩
theorem less_sub (l : List MR) (k : Nat) : (l.take k ++ l.drop (k + 1)).Sublist l := by
  rw [← List.eraseIdx_eq_take_drop_succ]
  exact List.eraseIdx_sublist l k
/-- each address of the range that is left out is of none -/
theorem less_in {l : List MR} (h : mapOk l = true) {k : Nat} (hk : k < l.length) {a : Int} (ha : isIn a l[k] = true) : mapFind (l.take k ++ l.drop (k + 1)) a = 3 := by
  have hp := (mapOk_iff.1 h).2.2
  rw [List.pairwise_iff_getElem] at hp
  have no : ∀ j (hj : j < l.length), j ≠ k → isIn a l[j] = false := by
    intro j hj hne
    rcases Nat.lt_or_gt_of_ne hne with h1 | h1
    · have := hp j k hj hk h1
      unfold isIn at ha ⊢
      rw [inB_true] at ha
      rw [inB_false]
      intro hc
      simp [meets] at this
      omega
    · have := hp k j hk hj h1
      unfold isIn at ha ⊢
      rw [inB_true] at ha
      rw [inB_false]
      intro hc
      simp [meets] at this
      omega
  unfold mapFind
  have : (l.take k ++ l.drop (k + 1)).find? (isIn a) = none := by
    rw [List.find?_eq_none]
    intro x hx
    rw [List.mem_append] at hx
    rcases hx with hx | hx
    · obtain ⟨j, hj, rfl⟩ := List.mem_iff_getElem.1 hx
      have : j < k := by simp at hj; omega
      simp [no j (by omega) (by omega)]
    · obtain ⟨j, hj, rfl⟩ := List.mem_iff_getElem.1 hx
      simp at hj
      simp [no (k + 1 + j) (by omega) (by omega)]
  rw [this]
/-- all others are of what they were -/
theorem less_out {l : List MR} {k : Nat} (hk : k < l.length) {a : Int} (ha : isIn a l[k] = false) : mapFind (l.take k ++ l.drop (k + 1)) a = mapFind l a := by
  unfold mapFind
  have e : l.find? (isIn a) = (l.take k ++ l.drop (k + 1)).find? (isIn a) := by
    conv => lhs; rw [← List.take_append_drop k l, List.drop_eq_getElem_cons hk]
    rw [List.find?_append, List.find?_append, List.find?_cons_of_neg (by simp [ha])]
  rw [e]

set_option maxRecDepth 100000 in
set_option maxHeartbeats 6400000 in
theorem walk (v : Value) (l0 : List Int) (fp0 : List Nat) (w : World) (g : ByteS w l0 v fp0) :
    Calls Try.prog 12 #[v] w fun e w' => e = .returned (.bool true) ∧ Below w.heap.size w w' := by
  obtain ⟨a0, n0, c0, rfl, hn0, hcap0, hmax0, hcm0, _⟩ := g.opened
  obtain ⟨i0, ki, kz0, kz1, kz2⟩ := info_parts infoMr
  have G := Lib.hid g
  clear g
  by_cases hb : 1048576 < n0
  · go_enter Try.func12, Try.ntmps12
    go_wp2
    go_ret
    exact ⟨rfl, Below.refl _ _⟩
  · go_enter Try.func12, Try.ntmps12
    go_wp2_with fail
    refine (drawMapFind_any _ l0 fp0 w G.out).mono ?_
    rintro e w1 ⟨v1, l, fp, ad, rfl, s1, hl7, b1⟩
    obtain ⟨a, n, c, rfl, hn, hcap, hmax, hcm, r⟩ := s1.opened
    have hn7 : n ≤ 7 := by rw [← hn.out]; exact hl7
    have S1 := Lib.hid s1
    have B1 := Lib.hid b1
    clear s1 b1 hl7
    go_wp2_with fail
    refine (iMapFind_any _ l fp ad _ S1.out).mono ?_
    rintro e w2 ⟨rfl, b2⟩
    have S2 := Lib.hid (SlR.below mrR_fits S1.out b2)
    have B2 := Lib.hid (B1.out.trans (b2.mono B1.out.size))
    clear b2 B1
    go_wp2_with fail
    refine (sMapFind_any _ l fp ad _ S2.out).mono ?_
    rintro e w3 ⟨rfl, b3⟩
    have S3 := Lib.hid (SlR.below mrR_fits S2.out b3)
    have B3 := Lib.hid (B2.out.trans (b3.mono B2.out.size))
    clear b3 B2
    go_wp2_with fail
    refine (sMapOk_any _ l fp _ S3.out).mono ?_
    rintro e w4 ⟨rfl, b4⟩
    have S4 := Lib.hid (SlR.below mrR_fits S3.out b4)
    have B4 := Lib.hid (B3.out.trans (b4.mono B3.out.size))
    clear b4 B3 S3 S2 S1 r
    cases hok : mapOk l
    · clear hok
      go_wp2_with fail
      refine (crOk_any _).mono ?_
      rintro e w5 ⟨rfl, rfl⟩
      go_wp2
      go_ret
      exact ⟨rfl, B4.out⟩
    · have HK := Lib.hid hok
      clear hok
      by_cases hn00 : n = 0
      · subst hn00
        go_wp2_with fail
        refine (crOk_any _).mono ?_
        rintro e w5 ⟨rfl, rfl⟩
        go_wp2
        go_ret
        exact ⟨rfl, B4.out⟩
      · obtain ⟨a', n', c', he, hn', _, _, _, r⟩ := S4.out.opened
        simp only [Value.slice.injEq] at he
        obtain ⟨rfl, rfl, rfl⟩ := he
        obtain ⟨q, hq⟩ : ∃ q, q = n0 % n := ⟨_, rfl⟩
        have hqn : q < n := by rw [hq]; exact Nat.mod_lt _ (by omega)
        have hqe : ((n0 : Int) % (n : Int)) = (q : Int) := by rw [hq]; rfl
        obtain ⟨i1, b1, o1, f1, cs, rfl, hb1, _, _, ⟨rfl, rfl⟩, e1⟩ := r q hqn
        have d0 := e1 0 (by simp)
        have d1 := e1 1 (by simp)
        simp only [Nat.add_zero, List.getElem_cons_zero, List.getElem_cons_succ] at d0 d1
        clear r e1 hn' hq
        go_wp2_with fail
        rw [hqe]
        by_cases hcq : c = q + 1
        · subst hcq
          obtain rfl : n = q + 1 := by omega
          have hst : ∀ F, F ∈ [fun v w => (∃ B, v = .slice (some B) 0 0) ∧ OwnR 4 MrC 49 w4.heap.size w v [], FEq (.slice (some ⟨b1, o1, none⟩) (q + 1) (q + 1)), FEq (.int .i64 (q : Int)), FEq (.slice (some ⟨b1, o1, none⟩) q (q + 1)), FOwn 4 MrC 49 w4.heap.size (l.take q), FEq (.slice (some ⟨b1, o1, none⟩) (q + 1) (q + 1)), FEq (.int .i64 (q : Int)), FEq (.int .i64 (q + 1 : Int)), FEq (.slice (some ⟨b1, o1, none⟩) 0 0)] → Stable [] F := by
            simp only [List.forall_mem_cons]
            exact ⟨fun _ _ _ h hc => ⟨h.1, OwnR.below h.2 hc.below⟩, stEq _ _, stEq _ _, stEq _ _, stOwn _ _ _ _ _, stEq _ _, stEq _ _, stEq _ _, stEq _ _, fun _ h => by simp at h⟩
          refine wp_region_tail (by kernel_rfl) (fun i => ([[], [], [], [1, 2], [0, 1, 2, 3], [], [], [6], [5, 6, 7], [0, 1, 2, 3, 4, 5, 6, 7, 8], [0, 1, 2, 3, 4, 5, 6, 7, 8, 9]] : List (List Nat)).getD i []) (facts [fun v w => (∃ B, v = .slice (some B) 0 0) ∧ OwnR 4 MrC 49 w4.heap.size w v [], FEq (.slice (some ⟨b1, o1, none⟩) (q + 1) (q + 1)), FEq (.int .i64 (q : Int)), FEq (.slice (some ⟨b1, o1, none⟩) q (q + 1)), FOwn 4 MrC 49 w4.heap.size (l.take q), FEq (.slice (some ⟨b1, o1, none⟩) (q + 1) (q + 1)), FEq (.int .i64 (q : Int)), FEq (.int .i64 (q + 1 : Int)), FEq (.slice (some ⟨b1, o1, none⟩) 0 0)]) (fun m w' => Below w4.heap.size w4 w') 75 11 9 [some 37, some 38, some 39, some 40, some 41, some 42, some 43, some 44, some 45] _ rfl rfl (by decide) rfl rfl (by kernel_rfl) (by kernel_rfl) [] (by kernel_rfl) (fun g b hm v w h => by simp at hm) ?h0 (all_lt (n := 9) ?hop) ?hend
          case h0 => exact (Below.refl _ _).drew
          case hop =>
            refine ⟨⟨⟨⟨⟨⟨⟨⟨⟨trivial, ?_⟩, ?_⟩, ?_⟩, ?_⟩, ?_⟩, ?_⟩, ?_⟩, ?_⟩, ?_⟩
            · refine Owes.mk _ rfl rfl (fun _ _ h => by cases h) fun u m w' hm hI hR => ⟨⟨#[undef, undef, undef, undef, undef, undef, undef, undef, undef, undef, undef, undef, undef, undef, undef, undef, undef, undef, undef, undef, undef, undef, undef, undef, undef, undef, undef, undef, undef, undef, undef, undef, undef, undef, undef, undef, undef, undef, undef, undef, undef, undef, undef, undef, undef, undef, undef, undef, undef, undef, undef, undef, undef, undef, undef, undef, undef, undef, undef, undef, undef, undef, undef, undef, undef, undef, undef, undef, undef, undef, undef, undef, undef, undef, undef], []⟩, rfl, fun d hd => by cases hd; exact (by decide : 37 < 75), ?_⟩
              have HI := Lib.hid hI
              have HS := Lib.hid (facts_stable hst ((below_alloc w' (.cells #[] 49)).chg []))
              clear hI hst hR
              go_wp2
              exact ⟨rfl, _, rfl, ⟨⟨_, rfl⟩, OwnR.lit _ _ 0 [] MrC_len rfl rfl HI.out.size (by decide)⟩, HI.out.trans ((below_alloc _ _).mono HI.out.size), HS.out⟩
            · refine Owes.mk _ rfl rfl (fun _ _ h => by cases h) fun u m w' hm hI hR => ⟨⟨#[undef, undef, undef, .slice (some ⟨b1, o1, none⟩) (q + 1) (q + 1), undef, undef, undef, undef, undef, undef, undef, undef, undef, undef, undef, undef, undef, undef, undef, undef, undef, undef, undef, undef, undef, undef, undef, undef, undef, undef, undef, undef, undef, undef, undef, undef, undef, undef, undef, undef, undef, undef, undef, undef, undef, undef, undef, undef, undef, undef, undef, undef, undef, undef, undef, undef, undef, undef, undef, undef, undef, undef, undef, undef, undef, undef, undef, undef, undef, undef, undef, undef, undef, undef, undef], []⟩, rfl, fun d hd => by cases hd; exact (by decide : 38 < 75), ?_⟩
              have HI := Lib.hid hI
              clear hI hst hR
              go_wp2
              exact ⟨rfl, _, rfl, rfl, HI.out, fun _ _ h => h⟩
            · refine Owes.mk _ rfl rfl (fun _ _ h => by cases h) fun u m w' hm hI hR => ⟨⟨#[undef, undef, undef, undef, undef, .int .i64 (q : Int), undef, undef, undef, undef, undef, undef, undef, undef, undef, undef, undef, undef, undef, undef, undef, undef, undef, undef, undef, undef, undef, undef, undef, undef, undef, undef, undef, undef, undef, undef, undef, undef, undef, undef, undef, undef, undef, undef, undef, undef, undef, undef, undef, undef, undef, undef, undef, undef, undef, undef, undef, undef, undef, undef, undef, undef, undef, undef, undef, undef, undef, undef, undef, undef, undef, undef, undef, undef, undef], []⟩, rfl, fun d hd => by cases hd; exact (by decide : 39 < 75), ?_⟩
              have HI := Lib.hid hI
              clear hI hst hR
              go_wp2
              exact ⟨rfl, _, rfl, rfl, HI.out, fun _ _ h => h⟩
            · refine Owes.mk _ rfl rfl (fun _ _ h => by cases h) fun u m w' hm hI hR => ⟨⟨#[undef, undef, undef, undef, undef, undef, undef, undef, undef, undef, undef, undef, undef, undef, undef, undef, undef, undef, undef, undef, undef, undef, undef, undef, undef, undef, undef, undef, undef, undef, undef, undef, undef, undef, undef, undef, undef, undef, u 1, u 2, undef, undef, undef, undef, undef, undef, undef, undef, undef, undef, undef, undef, undef, undef, undef, undef, undef, undef, undef, undef, undef, undef, undef, undef, undef, undef, undef, undef, undef, undef, undef, undef, undef, undef, undef], []⟩, rfl, fun d hd => by cases hd; exact (by decide : 40 < 75), ?_⟩
              have e1 : u 1 = _ := hR 1 (by decide)
              have e2 : u 2 = _ := hR 2 (by decide)
              have HI := Lib.hid hI
              clear hI hst hR
              rw [e1, e2]
              clear e1 e2
              go_wp2
              exact ⟨rfl, _, rfl, rfl, HI.out, fun _ _ h => h⟩
            · refine Owes.mk _ rfl rfl (fun _ _ h => by cases h) fun u m w' hm hI hR => ⟨⟨#[undef, undef, undef, undef, undef, undef, undef, undef, undef, undef, undef, undef, undef, undef, undef, undef, undef, undef, undef, undef, undef, undef, undef, undef, undef, undef, undef, undef, undef, undef, undef, undef, undef, undef, undef, undef, undef, u 0, undef, undef, u 3, undef, undef, undef, undef, undef, undef, undef, undef, undef, undef, undef, undef, undef, undef, undef, undef, undef, undef, undef, undef, undef, undef, undef, undef, undef, undef, undef, undef, undef, undef, undef, undef, undef, undef], []⟩, rfl, fun d hd => by cases hd; exact (by decide : 41 < 75), ?_⟩
              have e3 : u 3 = _ := hR 3 (by decide)
              rw [e3]
              clear e3
              obtain ⟨⟨B, e0⟩, h0⟩ := hR 0 (by decide)
              rw [e0] at h0 ⊢
              clear e0 hR
              by_cases hq0 : q = 0
              · subst hq0
                refine wpList_append_zero rfl _ _ 25 49 i0 rfl Try.underlying25 ki rfl rfl (Nat.le_refl _) ?_
                exact ⟨rfl, _, rfl, by rw [List.take_zero]; exact h0, hI, fun _ _ h => h⟩
              · refine wpList_append_empty (K := 4) (c := MrC) (news := l.take q) rfl _ _ 25 49 i0 (.agg #[.int .i64 0, .int .i64 0, .int .i64 0, .bool false]) 32 MrC_len rfl Try.underlying25 ki kz0 kz1 kz2 rfl (by decide) rfl rfl (by rw [List.length_take]; omega) (by omega) (fun j u hj => (SlR.flat_cells MrC_len (by decide) (SlR.below mrR_fits S4.out hI)) j u (by rw [← flat_take MrC_len] at hj; exact List.getElem?_take_some hj)) (by omega) ?_
                intro v' w2 hown hb'
                exact ⟨rfl, _, rfl, OwnR.lower hown hI.size, hI.trans (hb'.mono hI.size), facts_stable hst (hb'.chg [])⟩
            · refine Owes.mk _ rfl rfl (fun _ _ h => by cases h) fun u m w' hm hI hR => ⟨⟨#[undef, undef, undef, .slice (some ⟨b1, o1, none⟩) (q + 1) (q + 1), undef, undef, undef, undef, undef, undef, undef, undef, undef, undef, undef, undef, undef, undef, undef, undef, undef, undef, undef, undef, undef, undef, undef, undef, undef, undef, undef, undef, undef, undef, undef, undef, undef, undef, undef, undef, undef, undef, undef, undef, undef, undef, undef, undef, undef, undef, undef, undef, undef, undef, undef, undef, undef, undef, undef, undef, undef, undef, undef, undef, undef, undef, undef, undef, undef, undef, undef, undef, undef, undef, undef], []⟩, rfl, fun d hd => by cases hd; exact (by decide : 42 < 75), ?_⟩
              have HI := Lib.hid hI
              clear hI hst hR
              go_wp2
              exact ⟨rfl, _, rfl, rfl, HI.out, fun _ _ h => h⟩
            · refine Owes.mk _ rfl rfl (fun _ _ h => by cases h) fun u m w' hm hI hR => ⟨⟨#[undef, undef, undef, undef, undef, .int .i64 (q : Int), undef, undef, undef, undef, undef, undef, undef, undef, undef, undef, undef, undef, undef, undef, undef, undef, undef, undef, undef, undef, undef, undef, undef, undef, undef, undef, undef, undef, undef, undef, undef, undef, undef, undef, undef, undef, undef, undef, undef, undef, undef, undef, undef, undef, undef, undef, undef, undef, undef, undef, undef, undef, undef, undef, undef, undef, undef, undef, undef, undef, undef, undef, undef, undef, undef, undef, undef, undef, undef], []⟩, rfl, fun d hd => by cases hd; exact (by decide : 43 < 75), ?_⟩
              have HI := Lib.hid hI
              clear hI hst hR
              go_wp2
              exact ⟨rfl, _, rfl, rfl, HI.out, fun _ _ h => h⟩
            · refine Owes.mk _ rfl rfl (fun _ _ h => by cases h) fun u m w' hm hI hR => ⟨⟨#[undef, undef, undef, undef, undef, undef, undef, undef, undef, undef, undef, undef, undef, undef, undef, undef, undef, undef, undef, undef, undef, undef, undef, undef, undef, undef, undef, undef, undef, undef, undef, undef, undef, undef, undef, undef, undef, undef, undef, undef, undef, undef, undef, u 6, undef, undef, undef, undef, undef, undef, undef, undef, undef, undef, undef, undef, undef, undef, undef, undef, undef, undef, undef, undef, undef, undef, undef, undef, undef, undef, undef, undef, undef, undef, undef], []⟩, rfl, fun d hd => by cases hd; exact (by decide : 44 < 75), ?_⟩
              have e6 : u 6 = _ := hR 6 (by decide)
              have HI := Lib.hid hI
              clear hI hst hR
              rw [e6]
              clear e6
              go_wp2
              exact ⟨rfl, _, rfl, rfl, HI.out, fun _ _ h => h⟩
            · refine Owes.mk _ rfl rfl (fun _ _ h => by cases h) fun u m w' hm hI hR => ⟨⟨#[undef, undef, undef, undef, undef, undef, undef, undef, undef, undef, undef, undef, undef, undef, undef, undef, undef, undef, undef, undef, undef, undef, undef, undef, undef, undef, undef, undef, undef, undef, undef, undef, undef, undef, undef, undef, undef, undef, undef, undef, undef, undef, u 5, undef, u 7, undef, undef, undef, undef, undef, undef, undef, undef, undef, undef, undef, undef, undef, undef, undef, undef, undef, undef, undef, undef, undef, undef, undef, undef, undef, undef, undef, undef, undef, undef], []⟩, rfl, fun d hd => by cases hd; exact (by decide : 45 < 75), ?_⟩
              have e5 : u 5 = _ := hR 5 (by decide)
              have e7 : u 7 = _ := hR 7 (by decide)
              have HI := Lib.hid hI
              clear hI hst hR
              rw [e5, e7]
              clear e5 e7
              go_wp2
              exact ⟨rfl, _, rfl, rfl, HI.out, fun _ _ h => h⟩
          case hend =>
            intro u w' hI hR
            simp only [setAll, List.set_cons_zero, List.set_cons_succ]
            have h4 : OwnR 4 MrC 49 w4.heap.size w' (u 4) (l.take q) := hR 4 (by decide)
            have e8 : u 8 = _ := hR 8 (by decide)
            rw [e8]
            have H4 := Lib.hid h4
            have HI := Lib.hid hI
            have hz := hI.size
            have hll : (l.take q).length ≤ 7 := by rw [List.length_take]; omega
            have hlen : (l.drop (q + 1)).length = 0 := by rw [List.length_drop, hn.out]; omega
            have hcl := SlR.flat_cells MrC_len (by decide) (SlR.below mrR_fits S4.out hI)
            clear hR hst e8 h4 hI
            refine wpList_appendR (K := 4) (c := MrC) (l := l.take q) (news := l.drop (q + 1)) (base := w4.heap.size) rfl _ _ 25 49 i0 (.agg #[.int .i64 0, .int .i64 0, .int .i64 0, .bool false]) 32 MrC_len rfl Try.underlying25 ki kz0 kz1 kz2 rfl (by decide) (by decide) rfl rfl H4.out hlen (fun j u hj => by
              have : (l.drop (q + 1)) = [] := List.eq_nil_of_length_eq_zero (by omega)
              rw [this] at hj
              simp at hj) MrC_one (by omega) (by omega) hz ?_
            intro v' w5 hown hg
            obtain ⟨fp5, s5, _⟩ := mrRow_reads hown
            have S5 := Lib.hid s5
            have b45 := (Below.trans HI.out ((grown_below H4.out hg hz).mono (Nat.le_refl _)))
            have S45 := Lib.hid (SlR.below mrR_fits S4.out b45)
            have B5 := Lib.hid (B4.out.trans (b45.mono B4.out.size))
            replace d0 := keep_cell b45 d0
            replace d1 := keep_cell b45 d1
            obtain ⟨va, vn, vc, rfl⟩ := s5.form
            clear hown hg s5 b45 hcl
            go_wp2_with fail
            refine (iMapFind_any _ l fp ad _ S45.out).mono ?_
            rintro e w6 ⟨rfl, b6⟩
            have S6 := Lib.hid (SlR.below mrR_fits S5.out b6)
            have B6 := Lib.hid (B5.out.trans (b6.mono B5.out.size))
            replace d0 := keep_cell b6 d0
            replace d1 := keep_cell b6 d1
            clear b6
            have HOK := Lib.hid (mapOk_sub HK.out (less_sub l q))
            cases hin : isIn ad l[q]
            · have HF : Hid (mapFind (l.take q ++ l.drop (q + 1)) ad = mapFind l ad) := Lib.hid (less_out i1 hin)
              have hcase : ¬ (l[q].fr ≤ ad ∧ ad ≤ l[q].to) := inB_false.1 hin
              obtain ⟨z, hzz⟩ : ∃ z, z = mapFind l ad := ⟨_, rfl⟩
              rw [← hzz] at HF ⊢
              clear hin hzz
              by_cases h1 : l[q].fr ≤ ad
              · have h2 : ¬ ad ≤ l[q].to := fun h => hcase ⟨h1, h⟩
                clear hcase
                go_wp2_with fail
                refine (iMapOk_any _ _ fp5 _ S6.out).mono ?_
                rw [HOK.out]
                rintro e w7 ⟨rfl, b7⟩
                have S7 := Lib.hid (SlR.below mrR_fits S6.out b7)
                have B7 := Lib.hid (B6.out.trans (b7.mono B6.out.size))
                clear b7 d0 d1
                go_wp2_with fail
                refine (iMapFind_any _ _ fp5 ad _ S7.out).mono ?_
                rw [HF.out]
                rintro e w8 ⟨rfl, b8⟩
                have B8 := Lib.hid (B7.out.trans (b8.mono B7.out.size))
                clear b8
                go_wp2
                go_ret
                exact ⟨ret_bool (by simp), B8.out⟩
              · clear hcase
                go_wp2_with fail
                refine (iMapOk_any _ _ fp5 _ S6.out).mono ?_
                rw [HOK.out]
                rintro e w7 ⟨rfl, b7⟩
                have S7 := Lib.hid (SlR.below mrR_fits S6.out b7)
                have B7 := Lib.hid (B6.out.trans (b7.mono B6.out.size))
                clear b7 d0 d1
                go_wp2_with fail
                refine (iMapFind_any _ _ fp5 ad _ S7.out).mono ?_
                rw [HF.out]
                rintro e w8 ⟨rfl, b8⟩
                have B8 := Lib.hid (B7.out.trans (b8.mono B7.out.size))
                clear b8
                go_wp2
                go_ret
                exact ⟨ret_bool (by simp), B8.out⟩
            · have HF : Hid (mapFind (l.take q ++ l.drop (q + 1)) ad = 3) := Lib.hid (less_in HK.out i1 hin)
              obtain ⟨h1, h2⟩ := inB_true.1 hin
              obtain ⟨z, hzz⟩ : ∃ z, z = mapFind l ad := ⟨_, rfl⟩
              rw [← hzz]
              clear hin hzz
              go_wp2_with fail
              refine (iMapOk_any _ _ fp5 _ S6.out).mono ?_
              rw [HOK.out]
              rintro e w7 ⟨rfl, b7⟩
              have S7 := Lib.hid (SlR.below mrR_fits S6.out b7)
              have B7 := Lib.hid (B6.out.trans (b7.mono B6.out.size))
              clear b7 d0 d1
              go_wp2_with fail
              refine (iMapFind_any _ _ fp5 ad _ S7.out).mono ?_
              rw [HF.out]
              rintro e w8 ⟨rfl, b8⟩
              have B8 := Lib.hid (B7.out.trans (b8.mono B7.out.size))
              clear b8
              go_wp2
              go_ret
              exact ⟨rfl, B8.out⟩
        · skip
          have hst : ∀ F, F ∈ [fun v w => (∃ B, v = .slice (some B) 0 0) ∧ OwnR 4 MrC 49 w4.heap.size w v [], FEq (.slice (some ⟨b1, o1, none⟩) n c), FEq (.int .i64 (q : Int)), FEq (.slice (some ⟨b1, o1, none⟩) q c), FOwn 4 MrC 49 w4.heap.size (l.take q), FEq (.slice (some ⟨b1, o1, none⟩) n c), FEq (.int .i64 (q : Int)), FEq (.int .i64 (q + 1 : Int)), FEq (.slice (some ⟨b1, o1 + (q + 1) * 4, none⟩) (n - (q + 1)) (c - (q + 1)))] → Stable [] F := by
            simp only [List.forall_mem_cons]
            exact ⟨fun _ _ _ h hc => ⟨h.1, OwnR.below h.2 hc.below⟩, stEq _ _, stEq _ _, stEq _ _, stOwn _ _ _ _ _, stEq _ _, stEq _ _, stEq _ _, stEq _ _, fun _ h => by simp at h⟩
          refine wp_region_tail (by kernel_rfl) (fun i => ([[], [], [], [1, 2], [0, 1, 2, 3], [], [], [6], [5, 6, 7], [0, 1, 2, 3, 4, 5, 6, 7, 8], [0, 1, 2, 3, 4, 5, 6, 7, 8, 9]] : List (List Nat)).getD i []) (facts [fun v w => (∃ B, v = .slice (some B) 0 0) ∧ OwnR 4 MrC 49 w4.heap.size w v [], FEq (.slice (some ⟨b1, o1, none⟩) n c), FEq (.int .i64 (q : Int)), FEq (.slice (some ⟨b1, o1, none⟩) q c), FOwn 4 MrC 49 w4.heap.size (l.take q), FEq (.slice (some ⟨b1, o1, none⟩) n c), FEq (.int .i64 (q : Int)), FEq (.int .i64 (q + 1 : Int)), FEq (.slice (some ⟨b1, o1 + (q + 1) * 4, none⟩) (n - (q + 1)) (c - (q + 1)))]) (fun m w' => Below w4.heap.size w4 w') 75 11 9 [some 37, some 38, some 39, some 40, some 41, some 42, some 43, some 44, some 45] _ rfl rfl (by decide) rfl rfl (by kernel_rfl) (by kernel_rfl) [] (by kernel_rfl) (fun g b hm v w h => by simp at hm) ?h0 (all_lt (n := 9) ?hop) ?hend
          case h0 => exact (Below.refl _ _).drew
          case hop =>
            refine ⟨⟨⟨⟨⟨⟨⟨⟨⟨trivial, ?_⟩, ?_⟩, ?_⟩, ?_⟩, ?_⟩, ?_⟩, ?_⟩, ?_⟩, ?_⟩
            · refine Owes.mk _ rfl rfl (fun _ _ h => by cases h) fun u m w' hm hI hR => ⟨⟨#[undef, undef, undef, undef, undef, undef, undef, undef, undef, undef, undef, undef, undef, undef, undef, undef, undef, undef, undef, undef, undef, undef, undef, undef, undef, undef, undef, undef, undef, undef, undef, undef, undef, undef, undef, undef, undef, undef, undef, undef, undef, undef, undef, undef, undef, undef, undef, undef, undef, undef, undef, undef, undef, undef, undef, undef, undef, undef, undef, undef, undef, undef, undef, undef, undef, undef, undef, undef, undef, undef, undef, undef, undef, undef, undef], []⟩, rfl, fun d hd => by cases hd; exact (by decide : 37 < 75), ?_⟩
              have HI := Lib.hid hI
              have HS := Lib.hid (facts_stable hst ((below_alloc w' (.cells #[] 49)).chg []))
              clear hI hst hR
              go_wp2
              exact ⟨rfl, _, rfl, ⟨⟨_, rfl⟩, OwnR.lit _ _ 0 [] MrC_len rfl rfl HI.out.size (by decide)⟩, HI.out.trans ((below_alloc _ _).mono HI.out.size), HS.out⟩
            · refine Owes.mk _ rfl rfl (fun _ _ h => by cases h) fun u m w' hm hI hR => ⟨⟨#[undef, undef, undef, .slice (some ⟨b1, o1, none⟩) n c, undef, undef, undef, undef, undef, undef, undef, undef, undef, undef, undef, undef, undef, undef, undef, undef, undef, undef, undef, undef, undef, undef, undef, undef, undef, undef, undef, undef, undef, undef, undef, undef, undef, undef, undef, undef, undef, undef, undef, undef, undef, undef, undef, undef, undef, undef, undef, undef, undef, undef, undef, undef, undef, undef, undef, undef, undef, undef, undef, undef, undef, undef, undef, undef, undef, undef, undef, undef, undef, undef, undef], []⟩, rfl, fun d hd => by cases hd; exact (by decide : 38 < 75), ?_⟩
              have HI := Lib.hid hI
              clear hI hst hR
              go_wp2
              exact ⟨rfl, _, rfl, rfl, HI.out, fun _ _ h => h⟩
            · refine Owes.mk _ rfl rfl (fun _ _ h => by cases h) fun u m w' hm hI hR => ⟨⟨#[undef, undef, undef, undef, undef, .int .i64 (q : Int), undef, undef, undef, undef, undef, undef, undef, undef, undef, undef, undef, undef, undef, undef, undef, undef, undef, undef, undef, undef, undef, undef, undef, undef, undef, undef, undef, undef, undef, undef, undef, undef, undef, undef, undef, undef, undef, undef, undef, undef, undef, undef, undef, undef, undef, undef, undef, undef, undef, undef, undef, undef, undef, undef, undef, undef, undef, undef, undef, undef, undef, undef, undef, undef, undef, undef, undef, undef, undef], []⟩, rfl, fun d hd => by cases hd; exact (by decide : 39 < 75), ?_⟩
              have HI := Lib.hid hI
              clear hI hst hR
              go_wp2
              exact ⟨rfl, _, rfl, rfl, HI.out, fun _ _ h => h⟩
            · refine Owes.mk _ rfl rfl (fun _ _ h => by cases h) fun u m w' hm hI hR => ⟨⟨#[undef, undef, undef, undef, undef, undef, undef, undef, undef, undef, undef, undef, undef, undef, undef, undef, undef, undef, undef, undef, undef, undef, undef, undef, undef, undef, undef, undef, undef, undef, undef, undef, undef, undef, undef, undef, undef, undef, u 1, u 2, undef, undef, undef, undef, undef, undef, undef, undef, undef, undef, undef, undef, undef, undef, undef, undef, undef, undef, undef, undef, undef, undef, undef, undef, undef, undef, undef, undef, undef, undef, undef, undef, undef, undef, undef], []⟩, rfl, fun d hd => by cases hd; exact (by decide : 40 < 75), ?_⟩
              have e1 : u 1 = _ := hR 1 (by decide)
              have e2 : u 2 = _ := hR 2 (by decide)
              have HI := Lib.hid hI
              clear hI hst hR
              rw [e1, e2]
              clear e1 e2
              go_wp2
              exact ⟨rfl, _, rfl, rfl, HI.out, fun _ _ h => h⟩
            · refine Owes.mk _ rfl rfl (fun _ _ h => by cases h) fun u m w' hm hI hR => ⟨⟨#[undef, undef, undef, undef, undef, undef, undef, undef, undef, undef, undef, undef, undef, undef, undef, undef, undef, undef, undef, undef, undef, undef, undef, undef, undef, undef, undef, undef, undef, undef, undef, undef, undef, undef, undef, undef, undef, u 0, undef, undef, u 3, undef, undef, undef, undef, undef, undef, undef, undef, undef, undef, undef, undef, undef, undef, undef, undef, undef, undef, undef, undef, undef, undef, undef, undef, undef, undef, undef, undef, undef, undef, undef, undef, undef, undef], []⟩, rfl, fun d hd => by cases hd; exact (by decide : 41 < 75), ?_⟩
              have e3 : u 3 = _ := hR 3 (by decide)
              rw [e3]
              clear e3
              obtain ⟨⟨B, e0⟩, h0⟩ := hR 0 (by decide)
              rw [e0] at h0 ⊢
              clear e0 hR
              by_cases hq0 : q = 0
              · subst hq0
                refine wpList_append_zero rfl _ _ 25 49 i0 rfl Try.underlying25 ki rfl rfl (Nat.le_refl _) ?_
                exact ⟨rfl, _, rfl, by rw [List.take_zero]; exact h0, hI, fun _ _ h => h⟩
              · refine wpList_append_empty (K := 4) (c := MrC) (news := l.take q) rfl _ _ 25 49 i0 (.agg #[.int .i64 0, .int .i64 0, .int .i64 0, .bool false]) 32 MrC_len rfl Try.underlying25 ki kz0 kz1 kz2 rfl (by decide) rfl rfl (by rw [List.length_take]; omega) (by omega) (fun j u hj => (SlR.flat_cells MrC_len (by decide) (SlR.below mrR_fits S4.out hI)) j u (by rw [← flat_take MrC_len] at hj; exact List.getElem?_take_some hj)) (by omega) ?_
                intro v' w2 hown hb'
                exact ⟨rfl, _, rfl, OwnR.lower hown hI.size, hI.trans (hb'.mono hI.size), facts_stable hst (hb'.chg [])⟩
            · refine Owes.mk _ rfl rfl (fun _ _ h => by cases h) fun u m w' hm hI hR => ⟨⟨#[undef, undef, undef, .slice (some ⟨b1, o1, none⟩) n c, undef, undef, undef, undef, undef, undef, undef, undef, undef, undef, undef, undef, undef, undef, undef, undef, undef, undef, undef, undef, undef, undef, undef, undef, undef, undef, undef, undef, undef, undef, undef, undef, undef, undef, undef, undef, undef, undef, undef, undef, undef, undef, undef, undef, undef, undef, undef, undef, undef, undef, undef, undef, undef, undef, undef, undef, undef, undef, undef, undef, undef, undef, undef, undef, undef, undef, undef, undef, undef, undef, undef], []⟩, rfl, fun d hd => by cases hd; exact (by decide : 42 < 75), ?_⟩
              have HI := Lib.hid hI
              clear hI hst hR
              go_wp2
              exact ⟨rfl, _, rfl, rfl, HI.out, fun _ _ h => h⟩
            · refine Owes.mk _ rfl rfl (fun _ _ h => by cases h) fun u m w' hm hI hR => ⟨⟨#[undef, undef, undef, undef, undef, .int .i64 (q : Int), undef, undef, undef, undef, undef, undef, undef, undef, undef, undef, undef, undef, undef, undef, undef, undef, undef, undef, undef, undef, undef, undef, undef, undef, undef, undef, undef, undef, undef, undef, undef, undef, undef, undef, undef, undef, undef, undef, undef, undef, undef, undef, undef, undef, undef, undef, undef, undef, undef, undef, undef, undef, undef, undef, undef, undef, undef, undef, undef, undef, undef, undef, undef, undef, undef, undef, undef, undef, undef], []⟩, rfl, fun d hd => by cases hd; exact (by decide : 43 < 75), ?_⟩
              have HI := Lib.hid hI
              clear hI hst hR
              go_wp2
              exact ⟨rfl, _, rfl, rfl, HI.out, fun _ _ h => h⟩
            · refine Owes.mk _ rfl rfl (fun _ _ h => by cases h) fun u m w' hm hI hR => ⟨⟨#[undef, undef, undef, undef, undef, undef, undef, undef, undef, undef, undef, undef, undef, undef, undef, undef, undef, undef, undef, undef, undef, undef, undef, undef, undef, undef, undef, undef, undef, undef, undef, undef, undef, undef, undef, undef, undef, undef, undef, undef, undef, undef, undef, u 6, undef, undef, undef, undef, undef, undef, undef, undef, undef, undef, undef, undef, undef, undef, undef, undef, undef, undef, undef, undef, undef, undef, undef, undef, undef, undef, undef, undef, undef, undef, undef], []⟩, rfl, fun d hd => by cases hd; exact (by decide : 44 < 75), ?_⟩
              have e6 : u 6 = _ := hR 6 (by decide)
              have HI := Lib.hid hI
              clear hI hst hR
              rw [e6]
              clear e6
              go_wp2
              exact ⟨rfl, _, rfl, rfl, HI.out, fun _ _ h => h⟩
            · refine Owes.mk _ rfl rfl (fun _ _ h => by cases h) fun u m w' hm hI hR => ⟨⟨#[undef, undef, undef, undef, undef, undef, undef, undef, undef, undef, undef, undef, undef, undef, undef, undef, undef, undef, undef, undef, undef, undef, undef, undef, undef, undef, undef, undef, undef, undef, undef, undef, undef, undef, undef, undef, undef, undef, undef, undef, undef, undef, u 5, undef, u 7, undef, undef, undef, undef, undef, undef, undef, undef, undef, undef, undef, undef, undef, undef, undef, undef, undef, undef, undef, undef, undef, undef, undef, undef, undef, undef, undef, undef, undef, undef], []⟩, rfl, fun d hd => by cases hd; exact (by decide : 45 < 75), ?_⟩
              have e5 : u 5 = _ := hR 5 (by decide)
              have e7 : u 7 = _ := hR 7 (by decide)
              have HI := Lib.hid hI
              clear hI hst hR
              rw [e5, e7]
              clear e5 e7
              go_wp2
              exact ⟨rfl, _, rfl, rfl, HI.out, fun _ _ h => h⟩
          case hend =>
            intro u w' hI hR
            simp only [setAll, List.set_cons_zero, List.set_cons_succ]
            have h4 : OwnR 4 MrC 49 w4.heap.size w' (u 4) (l.take q) := hR 4 (by decide)
            have e8 : u 8 = _ := hR 8 (by decide)
            rw [e8]
            have H4 := Lib.hid h4
            have HI := Lib.hid hI
            have hz := hI.size
            have hll : (l.take q).length ≤ 7 := by rw [List.length_take]; omega
            have hlen : (l.drop (q + 1)).length = n - (q + 1) := by rw [List.length_drop, hn.out]
            have hcl := SlR.flat_cells MrC_len (by decide) (SlR.below mrR_fits S4.out hI)
            clear hR hst e8 h4 hI
            refine wpList_appendR (K := 4) (c := MrC) (l := l.take q) (news := l.drop (q + 1)) (base := w4.heap.size) rfl _ _ 25 49 i0 (.agg #[.int .i64 0, .int .i64 0, .int .i64 0, .bool false]) 32 MrC_len rfl Try.underlying25 ki kz0 kz1 kz2 rfl (by decide) (by decide) rfl rfl H4.out hlen (fun j u hj => by
              rw [← flat_drop MrC_len, List.getElem?_drop] at hj
              have := hcl _ _ hj
              rw [add_plain] at this ⊢
              rw [show o1 + (q + 1) * 4 + j = o1 + ((q + 1) * 4 + j) by omega]
              exact this) MrC_one (by omega) (by omega) hz ?_
            intro v' w5 hown hg
            obtain ⟨fp5, s5, _⟩ := mrRow_reads hown
            have S5 := Lib.hid s5
            have b45 := (Below.trans HI.out ((grown_below H4.out hg hz).mono (Nat.le_refl _)))
            have S45 := Lib.hid (SlR.below mrR_fits S4.out b45)
            have B5 := Lib.hid (B4.out.trans (b45.mono B4.out.size))
            replace d0 := keep_cell b45 d0
            replace d1 := keep_cell b45 d1
            obtain ⟨va, vn, vc, rfl⟩ := s5.form
            clear hown hg s5 b45 hcl
            go_wp2_with fail
            refine (iMapFind_any _ l fp ad _ S45.out).mono ?_
            rintro e w6 ⟨rfl, b6⟩
            have S6 := Lib.hid (SlR.below mrR_fits S5.out b6)
            have B6 := Lib.hid (B5.out.trans (b6.mono B5.out.size))
            replace d0 := keep_cell b6 d0
            replace d1 := keep_cell b6 d1
            clear b6
            have HOK := Lib.hid (mapOk_sub HK.out (less_sub l q))
            cases hin : isIn ad l[q]
            · have HF : Hid (mapFind (l.take q ++ l.drop (q + 1)) ad = mapFind l ad) := Lib.hid (less_out i1 hin)
              have hcase : ¬ (l[q].fr ≤ ad ∧ ad ≤ l[q].to) := inB_false.1 hin
              obtain ⟨z, hzz⟩ : ∃ z, z = mapFind l ad := ⟨_, rfl⟩
              rw [← hzz] at HF ⊢
              clear hin hzz
              by_cases h1 : l[q].fr ≤ ad
              · have h2 : ¬ ad ≤ l[q].to := fun h => hcase ⟨h1, h⟩
                clear hcase
                go_wp2_with fail
                refine (iMapOk_any _ _ fp5 _ S6.out).mono ?_
                rw [HOK.out]
                rintro e w7 ⟨rfl, b7⟩
                have S7 := Lib.hid (SlR.below mrR_fits S6.out b7)
                have B7 := Lib.hid (B6.out.trans (b7.mono B6.out.size))
                clear b7 d0 d1
                go_wp2_with fail
                refine (iMapFind_any _ _ fp5 ad _ S7.out).mono ?_
                rw [HF.out]
                rintro e w8 ⟨rfl, b8⟩
                have B8 := Lib.hid (B7.out.trans (b8.mono B7.out.size))
                clear b8
                go_wp2
                go_ret
                exact ⟨ret_bool (by simp), B8.out⟩
              · clear hcase
                go_wp2_with fail
                refine (iMapOk_any _ _ fp5 _ S6.out).mono ?_
                rw [HOK.out]
                rintro e w7 ⟨rfl, b7⟩
                have S7 := Lib.hid (SlR.below mrR_fits S6.out b7)
                have B7 := Lib.hid (B6.out.trans (b7.mono B6.out.size))
                clear b7 d0 d1
                go_wp2_with fail
                refine (iMapFind_any _ _ fp5 ad _ S7.out).mono ?_
                rw [HF.out]
                rintro e w8 ⟨rfl, b8⟩
                have B8 := Lib.hid (B7.out.trans (b8.mono B7.out.size))
                clear b8
                go_wp2
                go_ret
                exact ⟨ret_bool (by simp), B8.out⟩
            · have HF : Hid (mapFind (l.take q ++ l.drop (q + 1)) ad = 3) := Lib.hid (less_in HK.out i1 hin)
              obtain ⟨h1, h2⟩ := inB_true.1 hin
              obtain ⟨z, hzz⟩ : ∃ z, z = mapFind l ad := ⟨_, rfl⟩
              rw [← hzz]
              clear hin hzz
              go_wp2_with fail
              refine (iMapOk_any _ _ fp5 _ S6.out).mono ?_
              rw [HOK.out]
              rintro e w7 ⟨rfl, b7⟩
              have S7 := Lib.hid (SlR.below mrR_fits S6.out b7)
              have B7 := Lib.hid (B6.out.trans (b7.mono B6.out.size))
              clear b7 d0 d1
              go_wp2_with fail
              refine (iMapFind_any _ _ fp5 ad _ S7.out).mono ?_
              rw [HF.out]
              rintro e w8 ⟨rfl, b8⟩
              have B8 := Lib.hid (B7.out.trans (b8.mono B7.out.size))
              clear b8
              go_wp2
              go_ret
              exact ⟨rfl, B8.out⟩

set_option maxRecDepth 100000 in
theorem lifted (os : Os) (started : os.Started) (H : Type) (enc : TypeId × Value → H) :
    ReturnsInHanded {} Try.checked os 12 .any (Rows.fnMapLessSpec.pre6 enc Try.prog Try.f12 Rows.fnMapLessRow.domain false) (Rows.fnMapLessSpec.post enc Try.prog Try.f12 false true false false) := by
  refine returnsInHanded_of_change (C := Try.checked) own started (by kernel_rfl) Try.func12
    (ChangeSpec.witness6 (enc := enc) (C := Try.checked) false ⟨#[], #[.slice none 0 0], []⟩ 8 (by kernel_rfl) (by kernel_rfl) (by kernel_rfl) (by kernel_rfl)) ?_
  intro W base args ds gs before hval0 hW hcnd _
  have hval : ∀ (j : Nat) t v, Try.f12.params[j]? = some t → args[j]? = some v → Value.okWide Try.prog W .any base t v := hval0
  have hW' := hW
  obtain ⟨p, q, hA0, hV, rfl, hfz, hnd⟩ := hW
  have hA : DataW.TrodAll enc Try.prog W 0 (fun _ => true) true Try.f12.params.toList args.toList ds p := hA0
  rw [Try.params12] at hA hval
  obtain ⟨v0, vs0, d0, ds0, p0, q0, hargs, rfl, rfl, h0, r0⟩ := trodAll_cons hA
  obtain ⟨rfl, rfl, rfl⟩ := trodAll_nil r0
  obtain rfl : args = #[v0] := by cases args; simp_all
  obtain ⟨rfl, rfl⟩ := trodVars_none hV
  clear hA0 hval0
  simp only [List.append_nil] at hW'
  have hlt0 : ∀ x ∈ p0, x.block < W.heap.size := fun x hx => by simpa using hW'.lt x (by simp [hx])
  have hk0 := h0
  obtain ⟨ad0, len0, cap0, rfl⟩ := okWide_slice Try.underlying29 (hval 0 29 v0 rfl rfl)
  obtain ⟨fuel0, hf0⟩ := h0
  obtain ⟨x0, fp0, y0, e0, g0⟩ := (opens_slice Try.underlying29 (by kernel_rfl) (by decide) (opens_byte Try.underlying5) byteR_fits) hf0
  obtain rfl : .slice ad0 len0 cap0 = y0 := by simpa [Value.cells] using e0
  refine (walk (.slice ad0 len0 cap0) x0 fp0 W g0).mono fun e W' ⟨he, hb⟩ => ?_
  subst he
  exact ⟨_, rfl, _, _, _, [], _, [], hW', (trodAll_cons_mk (shut_bool Try.underlying4 _) trodAll_mk0), (trodAll_cons_mk (Below.trod laidOut (by kernel_rfl) (of_decide_eq_true (by kernel_rfl)) hk0 hb hlt0) trodAll_mk0), rfl, hb.frame _, fun h => by cases h⟩

theorem over : Rows.fnMapLessRow.holds Try.pinned (OpenSpec.ofChange Rows.fnMapLessSpec) :=
  OpenClaim.holds_of_wide 12 Try.f12 rfl rfl rfl rfl rfl rfl rfl ⟨rfl, rfl, rfl, rfl, rfl⟩ rfl rfl rfl rfl rfl (by kernel_rfl) Try.func12 (by kernel_rfl)
    (of_decide_eq_true (by kernel_rfl)) (by unfold Func.isWrapper; first | (rw [if_pos (by decide +kernel)]; kernel_rfl) | (rw [if_neg (by decide +kernel)]; exact ⟨rfl, rfl⟩))
    (fun os started H enc _ => lifted os started H enc)

theorem proved : Rows.FnMapLessSaid :=
  over
#print axioms proved
end Go.Proofs.Ytlamjbcacminmaa.fnMapLess
