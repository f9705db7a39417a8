/-
  Proved: the Go function laws.FnMapOk returns true for every code, and the code reads afterwards as before: of ranges that are ok each beginning is, with one of them twice they are not, and no address is in two.
  Conditions: none.
-/
import Derived.Test.YtlamjbcacminmaaLift
import Derived.Test.YtlamjbcacminmaaDMapOk
import Derived.Test.YtlamjbcacminmaaMapOk
import Derived.Test.YtlamjbcacminmaaFacts2
import Derived.Test.YtlamjbcacminmaaRegion3
import Derived.Test.YtlamjbcacminmaaCr
import Derived.Deep.Onto
namespace Go.Proofs.Ytlamjbcacminmaa.fnMapOk
set_option linter.unusedVariables false
set_option linter.unusedSimpArgs false
open Go.ChangeShapes Go.WideShapes Go.ChangeAt Go.RowKit

theorem rowOk_take {l : List MR} {m k : Nat} (h : k < (l.take m).length) (h' : k < l.length) : rowOk (l.take m) k h = rowOk l k h' := by
  have hkm : k < m := by simp at h; omega
  unfold rowOk
  rw [List.take_take, Nat.min_eq_left (Nat.le_of_lt hkm)]
  simp
theorem mapOk_take {l : List MR} (h : mapOk l = true) (m : Nat) : mapOk (l.take m) = true := by
  unfold mapOk at h ⊢
  rw [Bool.and_eq_true, decide_eq_true_eq, decide_eq_true_eq] at h ⊢
  refine ⟨by simp; omega, fun k hk => ?_⟩
  rw [rowOk_take hk (by simp at hk; omega)]
  exact h.2 k _
theorem mapOk_row {l : List MR} (h : mapOk l = true) {k : Nat} (hk : k < l.length) : l[k].fr ≤ l[k].to := by
  unfold mapOk at h
  rw [Bool.and_eq_true, decide_eq_true_eq, decide_eq_true_eq] at h
  have := h.2 k hk
  unfold rowOk at this
  simp only [Bool.and_eq_true, inB_true] at this
  omega
theorem mapOk_twice {l : List MR} (h : mapOk l = true) {k : Nat} (hk : k < l.length) : mapOk (l ++ [l[k]]) = false := by
  refine mapOk_no (k := l.length) (by simp) ?_
  have hr := mapOk_row h hk
  unfold rowOk
  have : ((l ++ [l[k]]).take l.length).any (meets ((l ++ [l[k]])[l.length]'(by simp))) = true := by
    rw [List.any_eq_true]
    exact ⟨l[k], by simp, by simp [meets]; omega⟩
  rw [this]
  simp
/-- how many of the first are in which an address is -/
def cntIn (a : Int) (l : List MR) : Nat := (l.filter fun r => inB a r.fr r.to).length
theorem cntIn_next {a : Int} {l : List MR} {k : Nat} (h : k < l.length) : cntIn a (l.take (k + 1)) = cntIn a (l.take k) + if inB a l[k].fr l[k].to then 1 else 0 := by
  unfold cntIn
  rw [List.take_succ_eq_append_getElem h, List.filter_append, List.length_append]
  congr 1
  by_cases hq : inB a l[k].fr l[k].to <;> simp [hq]
theorem mapOk_apart {l : List MR} (h : mapOk l = true) {j k : Nat} (hj : j < k) (hk : k < l.length) {a : Int} (h1 : inB a l[j].fr l[j].to = true) (h2 : inB a l[k].fr l[k].to = true) : False := by
  unfold mapOk at h
  rw [Bool.and_eq_true, decide_eq_true_eq, decide_eq_true_eq] at h
  have := h.2 k hk
  unfold rowOk at this
  simp only [Bool.and_eq_true, Bool.not_eq_true'] at this
  have h3 := this.2.2.2
  rw [List.any_eq_false] at h3
  have h4 := h3 l[j] (List.mem_iff_getElem.2 ⟨j, by simp; omega, by simp⟩)
  rw [inB_true] at h1 h2
  simp [meets] at h4
  omega
theorem cntIn_one {l : List MR} (h : mapOk l = true) (a : Int) : cntIn a l ≤ 1 := by
  have main : ∀ k, k ≤ l.length → cntIn a (l.take k) ≤ 1 ∧ (cntIn a (l.take k) = 1 → ∃ j, ∃ hj : j < l.length, j < k ∧ inB a l[j].fr l[j].to = true) := by
    intro k
    induction k with
    | zero => intro _; simp [cntIn]
    | succ k ih =>
      intro hk
      obtain ⟨i1, i2⟩ := ih (by omega)
      rw [cntIn_next (by omega)]
      by_cases hq : inB a l[k].fr l[k].to = true
      · rw [if_pos hq]
        by_cases e : cntIn a (l.take k) = 1
        · obtain ⟨j, hj, hjk, hji⟩ := i2 e
          exact (mapOk_apart h hjk (by omega) hji hq).elim
        · exact ⟨by omega, fun _ => ⟨k, by omega, by omega, hq⟩⟩
      · rw [if_neg hq]
        exact ⟨by omega, fun e => by obtain ⟨j, hj, hjk, hji⟩ := i2 (by omega); exact ⟨j, hj, by omega, hji⟩⟩
  have := (main l.length (Nat.le_refl _)).1
  rwa [List.take_length] at this

set_option maxRecDepth 100000 in
set_option maxHeartbeats 6400000 in
theorem walk (v : Value) (l0 : List Int) (fp0 : List Nat) (w : World) (g : ByteS w l0 v fp0) :
    Calls Try.prog 7 #[v] w fun e w' => e = .returned (.bool true) ∧ Below w.heap.size w w' := by
  obtain ⟨a0, n0, c0, rfl, hn0, hcap0, hmax0, hcm0, _⟩ := g.opened
  obtain ⟨i0, ki, kz0, kz1, kz2⟩ := info_parts infoMr
  have G := Lib.hid g
  clear g
  by_cases hb : 1048576 < n0
  · go_enter Try.func7, Try.ntmps7
    go_wp2
    go_ret
    exact ⟨rfl, Below.refl _ _⟩
  · go_enter Try.func7, Try.ntmps7
    go_wp2_with fail
    refine (drawMapOk_any _ l0 fp0 w G.out).mono ?_
    rintro e w1 ⟨v1, l, fp, rfl, s1, hl7, b1⟩
    obtain ⟨a, n, c, rfl, hn, hcap, hmax, hcm, r⟩ := s1.opened
    have hn7 : n ≤ 7 := by rw [← hn.out]; exact hl7
    have S1 := Lib.hid s1
    have B1 := Lib.hid b1
    clear s1 b1 hl7
    go_wp2_with fail
    refine (iMapOk_any _ l fp _ S1.out).mono ?_
    rintro e w2 ⟨rfl, b2⟩
    have S2 := Lib.hid (SlR.below mrR_fits S1.out b2)
    have B2 := Lib.hid (B1.out.trans (b2.mono B1.out.size))
    clear b2 B1
    go_wp2_with fail
    refine (sMapOk_any _ l fp _ S2.out).mono ?_
    rintro e w3 ⟨rfl, b3⟩
    have S3 := Lib.hid (SlR.below mrR_fits S2.out b3)
    have B3 := Lib.hid (B2.out.trans (b3.mono B2.out.size))
    clear b3 B2 S2 S1 r
    cases hok : mapOk l
    · clear hok
      go_wp2_with fail
      refine (crOk_any _).mono ?_
      rintro e w4 ⟨rfl, rfl⟩
      go_wp2
      go_ret
      exact ⟨rfl, B3.out⟩
    · have HK := Lib.hid hok
      clear hok
      go_wp2_with fail
      go_loopw [5] (fun i wr => ∃ k : Nat, k ≤ n ∧ i = .int .i64 k ∧ Below w3.heap.size w3 wr) (fun i _ => n - (intOf i).toNat)
      case atStart => exact ⟨0, Nat.zero_le _, rfl, Below.refl _ _⟩
      case round =>
        obtain ⟨k, hk, rfl, hbr⟩ := hrel
        have HB := Lib.hid hbr
        have SR := Lib.hid (SlR.below mrR_fits S3.out hbr)
        clear hbr
        by_cases hlt : k < n
        · obtain ⟨a', n', c', he, hn', _, _, _, r⟩ := SR.out.opened
          simp only [Value.slice.injEq] at he
          obtain ⟨rfl, rfl, rfl⟩ := he
          obtain ⟨i1, b1, o1, f1, cs, rfl, hb1, _, _, ⟨rfl, rfl⟩, e1⟩ := r k hlt
          have d0 := e1 0 (by simp)
          have d1 := e1 1 (by simp)
          have d2 := e1 2 (by simp)
          have d3 := e1 3 (by simp)
          simp only [Nat.add_zero, List.getElem_cons_zero, List.getElem_cons_succ] at d0 d1 d2 d3
          clear r e1 hn'
          go_wp2_with fail
          have hst : ∀ F, F ∈ [FEq (.slice (some ⟨b1, o1, none⟩) n c), FEq (.int .i64 (k : Int)), FEq (.slice (some ⟨b1, o1, none⟩) k c), FEq (.bool true), FEq (.bool false), FEq (.bool false), fun v _ => ∃ B, v = .slice (some B) 0 0, FEq (.slice (some ⟨b1, o1, none⟩) n c), FOwn 4 MrC 49 wr.heap.size l, FEq (.slice (some ⟨b1, o1, none⟩) n c), FEq (.int .i64 (k : Int)), FEq (.pointer (some ⟨b1, o1 + k * 4, none⟩)), FEq (.agg #[.int .i64 l[k].fr, .int .i64 l[k].to, .int .i64 l[k].sl, .bool l[k].only]), fun v w => ∃ g, v = .slice (some ⟨g, 0, none⟩) 1 1 ∧ ∀ j (hj : j < 4), w.cell? ⟨g, j, none⟩ = some ((MrC l[k])[j]'hj)] → Stable [] F := by
            simp only [List.forall_mem_cons]
            exact ⟨stEq _ _, stEq _ _, stEq _ _, stEq _ _, stEq _ _, stEq _ _, fun _ _ _ h _ => h, stEq _ _, stOwn _ _ _ _ _, stEq _ _, stEq _ _, stEq _ _, stEq _ _, fun _ _ _ ⟨g, e, h⟩ hc => ⟨g, e, fun j hj => keep_cell hc.below (h j hj)⟩, fun _ h => by simp at h⟩
          refine wp_region_tail (by kernel_rfl) (fun i => ([[], [], [0, 1], [0, 1, 2], [0, 1, 2, 3], [0, 1, 2, 3, 4], [0, 1, 2, 3, 4, 5], [0, 1, 2, 3, 4, 5], [0, 1, 2, 3, 4, 5, 6, 7], [0, 1, 2, 3, 4, 5], [0, 1, 2, 3, 4, 5], [0, 1, 2, 3, 4, 5, 9, 10], [0, 1, 2, 3, 4, 5, 9, 10, 11], [0, 1, 2, 3, 4, 5, 9, 10, 11, 12], [0, 1, 2, 3, 4, 5, 6, 7, 8, 9, 10, 11, 12, 13], [0, 1, 2, 3, 4, 5, 6, 7, 8, 9, 10, 11, 12, 13, 14], [0, 1, 2, 3, 4, 5, 6, 7, 8, 9, 10, 11, 12, 13, 14, 15]] : List (List Nat)).getD i []) (facts [FEq (.slice (some ⟨b1, o1, none⟩) n c), FEq (.int .i64 (k : Int)), FEq (.slice (some ⟨b1, o1, none⟩) k c), FEq (.bool true), FEq (.bool false), FEq (.bool false), fun v _ => ∃ B, v = .slice (some B) 0 0, FEq (.slice (some ⟨b1, o1, none⟩) n c), FOwn 4 MrC 49 wr.heap.size l, FEq (.slice (some ⟨b1, o1, none⟩) n c), FEq (.int .i64 (k : Int)), FEq (.pointer (some ⟨b1, o1 + k * 4, none⟩)), FEq (.agg #[.int .i64 l[k].fr, .int .i64 l[k].to, .int .i64 l[k].sl, .bool l[k].only]), fun v w => ∃ g, v = .slice (some ⟨g, 0, none⟩) 1 1 ∧ ∀ j (hj : j < 4), w.cell? ⟨g, j, none⟩ = some ((MrC l[k])[j]'hj)]) (fun m w' => Below wr.heap.size wr w') 76 17 14 [some 29, some 30, some 31, some 32, some 33, some 34, some 35, some 36, some 37, some 38, some 39, some 40, some 41, some 42] _ rfl rfl (by decide) rfl rfl (by kernel_rfl) (by kernel_rfl) [(5, false)] (by kernel_rfl) (fun g b hm v w h => by simp only [List.mem_cons, List.not_mem_nil, or_false, Prod.mk.injEq] at hm; obtain ⟨rfl, rfl⟩ := hm; exact h) ?h0 (all_lt (n := 14) ?hop) ?hend
          case h0 => exact (Below.refl _ _).drew
          case hop =>
            refine ⟨⟨⟨⟨⟨⟨⟨⟨⟨⟨⟨⟨⟨⟨trivial, ?_⟩, ?_⟩, ?_⟩, ?_⟩, ?_⟩, ?_⟩, ?_⟩, ?_⟩, ?_⟩, ?_⟩, ?_⟩, ?_⟩, ?_⟩, ?_⟩
            · refine Owes.mk _ rfl rfl (fun _ _ h => by cases h) fun u m w' hm hI hR => ⟨⟨#[undef, undef, undef, .slice (some ⟨b1, o1, none⟩) n c, undef, undef, undef, undef, undef, undef, undef, undef, undef, undef, undef, undef, undef, undef, undef, undef, undef, undef, undef, undef, undef, undef, undef, undef, undef, undef, undef, undef, undef, undef, undef, undef, undef, undef, undef, undef, undef, undef, undef, undef, undef, undef, undef, undef, undef, undef, undef, undef, undef, undef, undef, undef, undef, undef, undef, undef, undef, undef, undef, undef, undef, undef, undef, undef, undef, undef, undef, undef, undef, undef, undef, undef], []⟩, rfl, fun d hd => by cases hd; exact (by decide : 29 < 76), ?_⟩
              have k0 := keep_cell hI d0
              have k1 := keep_cell hI d1
              have k2 := keep_cell hI d2
              have k3 := keep_cell hI d3
              have HI := Lib.hid hI
              clear hI hst hR
              go_wp2
              exact ⟨rfl, _, rfl, rfl, HI.out, fun _ _ h => h⟩
            · refine Owes.mk _ rfl rfl (fun _ _ h => by cases h) fun u m w' hm hI hR => ⟨⟨#[undef, undef, undef, undef, undef, .int .i64 (k : Int), undef, undef, undef, undef, undef, undef, undef, undef, undef, undef, undef, undef, undef, undef, undef, undef, undef, undef, undef, undef, undef, undef, undef, undef, undef, undef, undef, undef, undef, undef, undef, undef, undef, undef, undef, undef, undef, undef, undef, undef, undef, undef, undef, undef, undef, undef, undef, undef, undef, undef, undef, undef, undef, undef, undef, undef, undef, undef, undef, undef, undef, undef, undef, undef, undef, undef, undef, undef, undef, undef], []⟩, rfl, fun d hd => by cases hd; exact (by decide : 30 < 76), ?_⟩
              have k0 := keep_cell hI d0
              have k1 := keep_cell hI d1
              have k2 := keep_cell hI d2
              have k3 := keep_cell hI d3
              have HI := Lib.hid hI
              clear hI hst hR
              go_wp2
              exact ⟨rfl, _, rfl, rfl, HI.out, fun _ _ h => h⟩
            · refine Owes.mk _ rfl rfl (fun _ _ h => by cases h) fun u m w' hm hI hR => ⟨⟨#[undef, undef, undef, undef, undef, undef, undef, undef, undef, undef, undef, undef, undef, undef, undef, undef, undef, undef, undef, undef, undef, undef, undef, undef, undef, undef, undef, undef, undef, u 0, u 1, undef, undef, undef, undef, undef, undef, undef, undef, undef, undef, undef, undef, undef, undef, undef, undef, undef, undef, undef, undef, undef, undef, undef, undef, undef, undef, undef, undef, undef, undef, undef, undef, undef, undef, undef, undef, undef, undef, undef, undef, undef, undef, undef, undef, undef], []⟩, rfl, fun d hd => by cases hd; exact (by decide : 31 < 76), ?_⟩
              have e0 : u 0 = _ := hR 0 (by decide)
              have e1 : u 1 = _ := hR 1 (by decide)
              have k0 := keep_cell hI d0
              have k1 := keep_cell hI d1
              have k2 := keep_cell hI d2
              have k3 := keep_cell hI d3
              have HI := Lib.hid hI
              clear hI hst hR
              rw [e0, e1]
              clear e0 e1
              go_wp2
              exact ⟨rfl, _, rfl, rfl, HI.out, fun _ _ h => h⟩
            · refine Owes.mk _ rfl rfl (fun _ _ h => by cases h) fun u m w' hm hI hR => ⟨⟨#[undef, undef, undef, undef, undef, undef, undef, undef, undef, undef, undef, undef, undef, undef, undef, undef, undef, undef, undef, undef, undef, undef, undef, undef, undef, undef, undef, undef, undef, undef, undef, u 2, undef, undef, undef, undef, undef, undef, undef, undef, undef, undef, undef, undef, undef, undef, undef, undef, undef, undef, undef, undef, undef, undef, undef, undef, undef, undef, undef, undef, undef, undef, undef, undef, undef, undef, undef, undef, undef, undef, undef, undef, undef, undef, undef, undef], []⟩, rfl, fun d hd => by cases hd; exact (by decide : 32 < 76), ?_⟩
              have e2 : u 2 = _ := hR 2 (by decide)
              have k0 := keep_cell hI d0
              have k1 := keep_cell hI d1
              have k2 := keep_cell hI d2
              have k3 := keep_cell hI d3
              rw [e2]
              clear e2
              obtain ⟨fq, ht, _⟩ := SR.out.take k (by omega)
              have HT := Lib.hid (SlR.below mrR_fits ht hI)
              go_wp2_with fail
              refine (iMapOk_any _ (l.take k) fq _ HT.out).mono ?_
              rw [mapOk_take HK.out]
              rintro e w4 ⟨rfl, b4⟩
              have hs := facts_stable hst (b4.chg [])
              have HS := Lib.hid hs
              have HI := Lib.hid (hI.trans (b4.mono hI.size))
              clear hs hI b4 hst ht hR
              go_wp2
              exact ⟨rfl, _, rfl, rfl, HI.out, HS.out⟩
            · refine Owes.mk _ rfl rfl (fun _ _ h => by cases h) fun u m w' hm hI hR => ⟨⟨#[undef, undef, undef, undef, undef, undef, undef, undef, undef, undef, undef, undef, undef, undef, undef, undef, undef, undef, undef, undef, undef, undef, undef, undef, undef, undef, undef, undef, undef, undef, undef, undef, u 3, undef, undef, undef, undef, undef, undef, undef, undef, undef, undef, undef, undef, undef, undef, undef, undef, undef, undef, undef, undef, undef, undef, undef, undef, undef, undef, undef, undef, undef, undef, undef, undef, undef, undef, undef, undef, undef, undef, undef, undef, undef, undef, undef], []⟩, rfl, fun d hd => by cases hd; exact (by decide : 33 < 76), ?_⟩
              have e3 : u 3 = _ := hR 3 (by decide)
              have k0 := keep_cell hI d0
              have k1 := keep_cell hI d1
              have k2 := keep_cell hI d2
              have k3 := keep_cell hI d3
              have HI := Lib.hid hI
              clear hI hst hR
              rw [e3]
              clear e3
              go_wp2
              exact ⟨rfl, _, rfl, rfl, HI.out, fun _ _ h => h⟩
            · refine Owes.mk _ rfl rfl (fun _ _ h => by cases h) fun u m w' hm hI hR => ⟨⟨#[undef, undef, undef, undef, undef, undef, undef, undef, undef, undef, undef, undef, undef, undef, undef, undef, undef, undef, undef, undef, undef, undef, undef, undef, undef, undef, undef, undef, undef, undef, undef, undef, undef, u 4, undef, undef, undef, undef, undef, undef, undef, undef, undef, undef, undef, undef, undef, undef, undef, undef, undef, undef, undef, undef, undef, undef, undef, undef, undef, undef, undef, undef, undef, undef, undef, undef, undef, undef, undef, undef, undef, undef, undef, undef, undef, undef], []⟩, rfl, fun d hd => by cases hd; exact (by decide : 34 < 76), ?_⟩
              have e4 : u 4 = _ := hR 4 (by decide)
              have k0 := keep_cell hI d0
              have k1 := keep_cell hI d1
              have k2 := keep_cell hI d2
              have k3 := keep_cell hI d3
              have HI := Lib.hid hI
              clear hI hst hR
              rw [e4]
              clear e4
              go_wp2
              exact ⟨rfl, _, rfl, rfl, HI.out, fun _ _ h => h⟩
            · refine Owes.mkG _ _ rfl rfl (fun _ _ h => by cases h) fun u m w' hm hI hR => ⟨⟨#[undef, undef, undef, undef, undef, undef, undef, undef, undef, undef, undef, undef, undef, undef, undef, undef, undef, undef, undef, undef, undef, undef, undef, undef, undef, undef, undef, undef, undef, undef, undef, undef, undef, undef, undef, undef, undef, undef, undef, undef, undef, undef, undef, undef, undef, undef, undef, undef, undef, undef, undef, undef, undef, undef, undef, undef, undef, undef, undef, undef, undef, undef, undef, undef, undef, undef, undef, undef, undef, undef, undef, undef, undef, undef, undef, undef], []⟩, rfl, fun d hd => by cases hd; exact (by decide : 35 < 76), ?_⟩
              have k0 := keep_cell hI d0
              have k1 := keep_cell hI d1
              have k2 := keep_cell hI d2
              have k3 := keep_cell hI d3
              have HI := Lib.hid hI
              have HS := Lib.hid (facts_stable hst ((below_alloc w' (.cells #[] 49)).chg []))
              clear hI hst hR
              go_wp2
              exact ⟨rfl, _, rfl, ⟨_, rfl⟩, HI.out.trans ((below_alloc _ _).mono HI.out.size), HS.out⟩
            · refine Owes.mkG _ _ rfl rfl (fun _ _ h => by cases h) fun u m w' hm hI hR => ⟨⟨#[undef, undef, undef, .slice (some ⟨b1, o1, none⟩) n c, undef, undef, undef, undef, undef, undef, undef, undef, undef, undef, undef, undef, undef, undef, undef, undef, undef, undef, undef, undef, undef, undef, undef, undef, undef, undef, undef, undef, undef, undef, undef, undef, undef, undef, undef, undef, undef, undef, undef, undef, undef, undef, undef, undef, undef, undef, undef, undef, undef, undef, undef, undef, undef, undef, undef, undef, undef, undef, undef, undef, undef, undef, undef, undef, undef, undef, undef, undef, undef, undef, undef, undef], []⟩, rfl, fun d hd => by cases hd; exact (by decide : 36 < 76), ?_⟩
              have k0 := keep_cell hI d0
              have k1 := keep_cell hI d1
              have k2 := keep_cell hI d2
              have k3 := keep_cell hI d3
              have HI := Lib.hid hI
              clear hI hst hR
              go_wp2
              exact ⟨rfl, _, rfl, rfl, HI.out, fun _ _ h => h⟩
            · refine Owes.mkG _ _ rfl rfl (fun _ _ h => by cases h) fun u m w' hm hI hR => ⟨⟨#[undef, undef, undef, undef, undef, undef, undef, undef, undef, undef, undef, undef, undef, undef, undef, undef, undef, undef, undef, undef, undef, undef, undef, undef, undef, undef, undef, undef, undef, undef, undef, undef, undef, undef, undef, u 6, u 7, undef, undef, undef, undef, undef, undef, undef, undef, undef, undef, undef, undef, undef, undef, undef, undef, undef, undef, undef, undef, undef, undef, undef, undef, undef, undef, undef, undef, undef, undef, undef, undef, undef, undef, undef, undef, undef, undef, undef], []⟩, rfl, fun d hd => by cases hd; exact (by decide : 37 < 76), ?_⟩
              have e7 : u 7 = _ := hR 7 (by decide)
              have k0 := keep_cell hI d0
              have k1 := keep_cell hI d1
              have k2 := keep_cell hI d2
              have k3 := keep_cell hI d3
              rw [e7]
              clear e7
              obtain ⟨B, e6⟩ := hR 6 (by decide)
              rw [e6]
              clear e6 hR
              refine wpList_append_empty (K := 4) (c := MrC) (news := l) rfl _ _ 25 49 i0 (.agg #[.int .i64 0, .int .i64 0, .int .i64 0, .bool false]) 32 MrC_len rfl Try.underlying25 ki kz0 kz1 kz2 rfl (by decide) rfl rfl hn.out (by omega) (SlR.flat_cells MrC_len (by decide) (SlR.below mrR_fits SR.out hI)) (by omega) ?_
              intro v' w2 hown hb'
              exact ⟨rfl, _, rfl, World.ownsRow.mono hown hI.size, hI.trans (hb'.mono hI.size), facts_stable hst (hb'.chg [])⟩
            · refine Owes.mkG _ _ rfl rfl (fun _ _ h => by cases h) fun u m w' hm hI hR => ⟨⟨#[undef, undef, undef, .slice (some ⟨b1, o1, none⟩) n c, undef, undef, undef, undef, undef, undef, undef, undef, undef, undef, undef, undef, undef, undef, undef, undef, undef, undef, undef, undef, undef, undef, undef, undef, undef, undef, undef, undef, undef, undef, undef, undef, undef, undef, undef, undef, undef, undef, undef, undef, undef, undef, undef, undef, undef, undef, undef, undef, undef, undef, undef, undef, undef, undef, undef, undef, undef, undef, undef, undef, undef, undef, undef, undef, undef, undef, undef, undef, undef, undef, undef, undef], []⟩, rfl, fun d hd => by cases hd; exact (by decide : 38 < 76), ?_⟩
              have k0 := keep_cell hI d0
              have k1 := keep_cell hI d1
              have k2 := keep_cell hI d2
              have k3 := keep_cell hI d3
              have HI := Lib.hid hI
              clear hI hst hR
              go_wp2
              exact ⟨rfl, _, rfl, rfl, HI.out, fun _ _ h => h⟩
            · refine Owes.mkG _ _ rfl rfl (fun _ _ h => by cases h) fun u m w' hm hI hR => ⟨⟨#[undef, undef, undef, undef, undef, .int .i64 (k : Int), undef, undef, undef, undef, undef, undef, undef, undef, undef, undef, undef, undef, undef, undef, undef, undef, undef, undef, undef, undef, undef, undef, undef, undef, undef, undef, undef, undef, undef, undef, undef, undef, undef, undef, undef, undef, undef, undef, undef, undef, undef, undef, undef, undef, undef, undef, undef, undef, undef, undef, undef, undef, undef, undef, undef, undef, undef, undef, undef, undef, undef, undef, undef, undef, undef, undef, undef, undef, undef, undef], []⟩, rfl, fun d hd => by cases hd; exact (by decide : 39 < 76), ?_⟩
              have k0 := keep_cell hI d0
              have k1 := keep_cell hI d1
              have k2 := keep_cell hI d2
              have k3 := keep_cell hI d3
              have HI := Lib.hid hI
              clear hI hst hR
              go_wp2
              exact ⟨rfl, _, rfl, rfl, HI.out, fun _ _ h => h⟩
            · refine Owes.mkG _ _ rfl rfl (fun _ _ h => by cases h) fun u m w' hm hI hR => ⟨⟨#[undef, undef, undef, undef, undef, undef, undef, undef, undef, undef, undef, undef, undef, undef, undef, undef, undef, undef, undef, undef, undef, undef, undef, undef, undef, undef, undef, undef, undef, undef, undef, undef, undef, undef, undef, undef, undef, undef, u 9, u 10, undef, undef, undef, undef, undef, undef, undef, undef, undef, undef, undef, undef, undef, undef, undef, undef, undef, undef, undef, undef, undef, undef, undef, undef, undef, undef, undef, undef, undef, undef, undef, undef, undef, undef, undef, undef], []⟩, rfl, fun d hd => by cases hd; exact (by decide : 40 < 76), ?_⟩
              have e9 : u 9 = _ := hR 9 (by decide)
              have e10 : u 10 = _ := hR 10 (by decide)
              have k0 := keep_cell hI d0
              have k1 := keep_cell hI d1
              have k2 := keep_cell hI d2
              have k3 := keep_cell hI d3
              have HI := Lib.hid hI
              clear hI hst hR
              rw [e9, e10]
              clear e9 e10
              go_wp2
              exact ⟨rfl, _, rfl, rfl, HI.out, fun _ _ h => h⟩
            · refine Owes.mkG _ _ rfl rfl (fun _ _ h => by cases h) fun u m w' hm hI hR => ⟨⟨#[undef, undef, undef, undef, undef, undef, undef, undef, undef, undef, undef, undef, undef, undef, undef, undef, undef, undef, undef, undef, undef, undef, undef, undef, undef, undef, undef, undef, undef, undef, undef, undef, undef, undef, undef, undef, undef, undef, undef, undef, u 11, undef, undef, undef, undef, undef, undef, undef, undef, undef, undef, undef, undef, undef, undef, undef, undef, undef, undef, undef, undef, undef, undef, undef, undef, undef, undef, undef, undef, undef, undef, undef, undef, undef, undef, undef], []⟩, rfl, fun d hd => by cases hd; exact (by decide : 41 < 76), ?_⟩
              have e11 : u 11 = _ := hR 11 (by decide)
              have k0 := keep_cell hI d0
              have k1 := keep_cell hI d1
              have k2 := keep_cell hI d2
              have k3 := keep_cell hI d3
              have HI := Lib.hid hI
              clear hI hst hR
              rw [e11]
              clear e11
              go_wp2
              exact ⟨rfl, _, rfl, rfl, HI.out, fun _ _ h => h⟩
            · refine Owes.mkG _ _ rfl rfl (fun _ _ h => by cases h) fun u m w' hm hI hR => ⟨⟨#[undef, undef, undef, undef, undef, undef, undef, undef, undef, undef, undef, undef, undef, undef, undef, undef, undef, undef, undef, undef, undef, undef, undef, undef, undef, undef, undef, undef, undef, undef, undef, undef, undef, undef, undef, undef, undef, undef, undef, undef, undef, u 12, undef, undef, undef, undef, undef, undef, undef, undef, undef, undef, undef, undef, undef, undef, undef, undef, undef, undef, undef, undef, undef, undef, undef, undef, undef, undef, undef, undef, undef, undef, undef, undef, undef, undef], []⟩, rfl, fun d hd => by cases hd; exact (by decide : 42 < 76), ?_⟩
              have e12 : u 12 = _ := hR 12 (by decide)
              have k0 := keep_cell hI d0
              have k1 := keep_cell hI d1
              have k2 := keep_cell hI d2
              have k3 := keep_cell hI d3
              rw [e12]
              clear e12
              have HI := Lib.hid hI
              have HS := Lib.hid (facts_stable hst ((below_alloc w' (.cells #[.int .i64 l[k].fr, .int .i64 l[k].to, .int .i64 l[k].sl, .bool l[k].only] 49)).chg []))
              clear hI hst hR
              go_wp2
              exact ⟨rfl, _, rfl, ⟨_, rfl, fun j hj => alloc1_new _ _ _ j (by simp [MrC, hj])⟩, HI.out.trans ((below_alloc _ _).mono HI.out.size), HS.out⟩
          case hend =>
            intro u w' hI hR
            simp only [setAll, List.set_cons_zero, List.set_cons_succ]
            have e5 : u 5 = .bool false := hR 5 (by decide)
            have h8 : OwnR 4 MrC 49 wr.heap.size w' (u 8) l := hR 8 (by decide)
            obtain ⟨g13, e13, h13⟩ := hR 13 (by decide)
            rw [e5, e13]
            have H8 := Lib.hid h8
            have H13 := Lib.hid h13
            have HI := Lib.hid hI
            have hz := hI.size
            have hll : l.length ≤ 7 := by have := hn.out; omega
            clear hR hst e5 h8 e13 h13 hI
            refine wpList_guarded rfl ?_
            refine wpList_appendR (K := 4) (c := MrC) (l := l) (news := [l[k]]) (base := wr.heap.size) rfl _ _ 25 49 i0 (.agg #[.int .i64 0, .int .i64 0, .int .i64 0, .bool false]) 32 MrC_len rfl Try.underlying25 ki kz0 kz1 kz2 rfl (by decide) (by decide) rfl rfl H8.out rfl (fun j u hj => by
              have hj4 : j < 4 := by have := (List.getElem?_eq_some_iff.1 hj).1; simpa [MrC] using this
              rw [add_plain, Nat.zero_add, H13.out j hj4, ← hj]
              simp [hj4, MrC]) (by simp [MrC, Value.oneCell']) (by omega) (by omega) hz ?_
            intro v' w4 hown hg
            obtain ⟨fp4, s4, _⟩ := mrRow_reads hown
            have S4 := Lib.hid s4
            have HB4 := Lib.hid ((Below.trans HI.out ((grown_below H8.out hg hz).mono (Nat.le_refl _))))
            obtain ⟨va, vn, vc, rfl⟩ := s4.form
            clear hown hg s4
            go_wp2_with fail
            refine (iMapOk_any _ _ fp4 _ S4.out).mono ?_
            rw [mapOk_twice HK.out i1]
            rintro e w5 ⟨rfl, b5⟩
            have HB5 := Lib.hid (HB.out.trans ((HB4.out.trans (b5.mono HB4.out.size)).mono HB.out.size))
            clear b5 d0 d1 d2 d3
            go_wp2
            go_roundw
            case rel => exact ⟨k + 1, by omega, by go_num, HB5.out⟩
            case measure => simp [intOf]; omega
        · obtain rfl : k = n := by omega
          obtain ⟨a', n', c', he, hn', _, _, _, r⟩ := SR.out.opened
          simp only [Value.slice.injEq] at he
          obtain ⟨rfl, rfl, rfl⟩ := he
          have R := Lib.hid r
          clear r hn'
          go_wp2_with fail
          go_loop [6] (fun i => ∃ q : Nat, q ≤ 64 ∧ i = .int .i64 q) (fun i => 64 - (intOf i).toNat)
          case atStart => exact ⟨0, by omega, rfl⟩
          case round =>
            obtain ⟨q, hq, rfl⟩ := hrel
            by_cases hq64 : q < 64
            · go_wp2_with fail
              go_loop [7, 8] (fun s i => ∃ j : Nat, j ≤ k ∧ i = .int .i64 j ∧ s = .int .i64 (cntIn q (l.take j) : Nat)) (fun _ i => k - (intOf i).toNat)
              case atStart => exact ⟨0, by omega, rfl, by simp [cntIn]⟩
              case round =>
                obtain ⟨j, hj, rfl, rfl⟩ := hrel
                have hcn : cntIn q (l.take j) ≤ 7 := by
                  unfold cntIn
                  have := List.length_filter_le (fun r : MR => inB q r.fr r.to) (l.take j)
                  rw [List.length_take] at this
                  omega
                obtain ⟨m, hm⟩ : ∃ m, m = cntIn q (l.take j) := ⟨_, rfl⟩
                have HM := Lib.hid hm
                rw [← hm] at hcn ⊢
                clear hm
                by_cases hjk : j < k
                · obtain ⟨i1, b1, o1, f1, cs, rfl, hb1, _, _, ⟨rfl, rfl⟩, e1⟩ := R.out j hjk
                  have d0 := e1 0 (by simp)
                  have d1 := e1 1 (by simp)
                  simp only [Nat.add_zero, List.getElem_cons_zero, List.getElem_cons_succ] at d0 d1
                  clear e1
                  by_cases h1 : l[j].fr ≤ (q : Int)
                  · by_cases h2 : (q : Int) ≤ l[j].to
                    · have HN : Hid (cntIn q (l.take (j + 1)) = m + 1) := Lib.hid (by rw [cntIn_next i1, ← HM.out, if_pos (inB_true.2 ⟨h1, h2⟩)])
                      go_wp2
                      go_round
                      case rel => exact ⟨j + 1, by omega, by go_num, by rw [HN.out]; go_num⟩
                      case measure => simp [intOf]; omega
                    · have HN : Hid (cntIn q (l.take (j + 1)) = m) := Lib.hid (by rw [cntIn_next i1, ← HM.out, if_neg (by rw [inB_true]; omega)]; rfl)
                      go_wp2
                      go_round
                      case rel => exact ⟨j + 1, by omega, by go_num, by rw [HN.out]⟩
                      case measure => simp [intOf]; omega
                  · have HN : Hid (cntIn q (l.take (j + 1)) = m) := Lib.hid (by rw [cntIn_next i1, ← HM.out, if_neg (by rw [inB_true]; omega)]; rfl)
                    go_wp2
                    go_round
                    case rel => exact ⟨j + 1, by omega, by go_num, by rw [HN.out]⟩
                    case measure => simp [intOf]; omega
                · have hone : m ≤ 1 := by
                    rw [HM.out]
                    have := cntIn_one HK.out (q : Int)
                    rwa [List.take_of_length_le (by rw [hn.out]; omega)]
                  clear R
                  go_wp2
                  go_round
                  case rel => exact ⟨q + 1, by omega, by go_num⟩
                  case measure => simp [intOf]; omega
            · clear R
              go_wp2
              go_ret
              exact ⟨rfl, B3.out.trans (HB.out.mono B3.out.size)⟩

set_option maxRecDepth 100000 in
theorem lifted (os : Os) (started : os.Started) (H : Type) (enc : TypeId × Value → H) :
    ReturnsInHanded {} Try.checked os 7 .any (Rows.fnMapOkSpec.pre6 enc Try.prog Try.f7 Rows.fnMapOkRow.domain false) (Rows.fnMapOkSpec.post enc Try.prog Try.f7 false true false false) := by
  refine returnsInHanded_of_change (C := Try.checked) own started (by kernel_rfl) Try.func7
    (ChangeSpec.witness6 (enc := enc) (C := Try.checked) false ⟨#[], #[.slice none 0 0], []⟩ 8 (by kernel_rfl) (by kernel_rfl) (by kernel_rfl) (by kernel_rfl)) ?_
  intro W base args ds gs before hval0 hW hcnd _
  have hval : ∀ (j : Nat) t v, Try.f7.params[j]? = some t → args[j]? = some v → Value.okWide Try.prog W .any base t v := hval0
  have hW' := hW
  obtain ⟨p, q, hA0, hV, rfl, hfz, hnd⟩ := hW
  have hA : DataW.TrodAll enc Try.prog W 0 (fun _ => true) true Try.f7.params.toList args.toList ds p := hA0
  rw [Try.params7] at hA hval
  obtain ⟨v0, vs0, d0, ds0, p0, q0, hargs, rfl, rfl, h0, r0⟩ := trodAll_cons hA
  obtain ⟨rfl, rfl, rfl⟩ := trodAll_nil r0
  obtain rfl : args = #[v0] := by cases args; simp_all
  obtain ⟨rfl, rfl⟩ := trodVars_none hV
  clear hA0 hval0
  simp only [List.append_nil] at hW'
  have hlt0 : ∀ x ∈ p0, x.block < W.heap.size := fun x hx => by simpa using hW'.lt x (by simp [hx])
  have hk0 := h0
  obtain ⟨ad0, len0, cap0, rfl⟩ := okWide_slice Try.underlying29 (hval 0 29 v0 rfl rfl)
  obtain ⟨fuel0, hf0⟩ := h0
  obtain ⟨x0, fp0, y0, e0, g0⟩ := (opens_slice Try.underlying29 (by kernel_rfl) (by decide) (opens_byte Try.underlying5) byteR_fits) hf0
  obtain rfl : .slice ad0 len0 cap0 = y0 := by simpa [Value.cells] using e0
  refine (walk (.slice ad0 len0 cap0) x0 fp0 W g0).mono fun e W' ⟨he, hb⟩ => ?_
  subst he
  exact ⟨_, rfl, _, _, _, [], _, [], hW', (trodAll_cons_mk (shut_bool Try.underlying4 _) trodAll_mk0), (trodAll_cons_mk (Below.trod laidOut (by kernel_rfl) (of_decide_eq_true (by kernel_rfl)) hk0 hb hlt0) trodAll_mk0), rfl, hb.frame _, fun h => by cases h⟩

theorem over : Rows.fnMapOkRow.holds Try.pinned (OpenSpec.ofChange Rows.fnMapOkSpec) :=
  OpenClaim.holds_of_wide 7 Try.f7 rfl rfl rfl rfl rfl rfl rfl ⟨rfl, rfl, rfl, rfl, rfl⟩ rfl rfl rfl rfl rfl (by kernel_rfl) Try.func7 (by kernel_rfl)
    (of_decide_eq_true (by kernel_rfl)) (by unfold Func.isWrapper; first | (rw [if_pos (by decide +kernel)]; kernel_rfl) | (rw [if_neg (by decide +kernel)]; exact ⟨rfl, rfl⟩))
    (fun os started H enc _ => lifted os started H enc)

theorem proved : Rows.FnMapOkSaid :=
  over
#print axioms proved
end Go.Proofs.Ytlamjbcacminmaa.fnMapOk
