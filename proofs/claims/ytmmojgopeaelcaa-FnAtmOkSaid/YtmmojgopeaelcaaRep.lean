/-
  slices.Repeat of one number, and of one bool.
-/
import Derived.Test.YtmmojgopeaelcaaProg
import Derived.Test.YtmmojgopeaelcaaBase
import Derived.Test.YtmmojgopeaelcaaUni
import Derived.Test.YtmmojgopeaelcaaBools
import Derived.Laws.CopyOwn
import Derived.Deep.RegionLaw
import Derived.RegionTactic
import Derived.OwnWalk
import Derived.Lib.Mul64
import Derived.Laws.Bits64b
namespace Go.Proofs.Ytmmojgopeaelcaa
set_option linter.unusedVariables false
set_option linter.unusedSimpArgs false
open Go.RowKit Go.ChangeShapes Go.WideShapes

theorem mul64_small (y : Int) (h0 : 0 ≤ y) (hy : y < 1000) (w : World) :
    Calls Try.prog 187 #[.int .u64 1, .int .u64 y] w fun e w' => e = .returned (.tuple #[.int .u64 0, .int .u64 y]) ∧ w = w' := by
  have e1 : bits .and .u64 1 4294967295 = 1 := by decide
  have e2 : bits .and .u64 y 4294967295 = y := by
    obtain ⟨n, rfl⟩ := Int.eq_ofNat_of_zero_le h0
    have h := bits_and_u64_nat n 4294967295 (by omega) (by omega)
    have e : n &&& 4294967295 = n % 4294967296 := Nat.and_two_pow_sub_one_eq_mod n 32
    rw [e, Nat.mod_eq_of_lt (by omega)] at h
    exact h
  have e3 : y / 4294967296 = 0 := by omega
  have e4 : bits .and .u64 0 4294967295 = 0 := by decide
  have e5 : IntKind.u64.wrap 0 = 0 := by decide
  have e6 : (0 : Int) / 4294967296 = 0 := by decide
  go_enter Try.func187, Try.ntmps187
  go_wp2
  go_ret2
  exact ⟨by simp [e4, e5, e6], rfl⟩

set_option maxRecDepth 100000 in
theorem mul_small (y : Int) (h0 : 0 ≤ y) (hy : y < 1000) (w : World) :
    Calls Try.prog 168 #[.int .u64 1, .int .u64 y] w fun e w' => e = .returned (.tuple #[.int .u64 0, .int .u64 y]) ∧ w = w' := by
  go_enter Try.func168, Try.ntmps168
  go_wp2_with (go_at_call 187; refine (mul64_small y h0 hy _).mono ?_; rintro e w' ⟨rfl, rfl⟩)
  go_ret2
  exact ⟨rfl, rfl⟩

theorem splice_rep (x : Value) (z : Value) (k m c : Nat) (h : k + m ≤ c) : splice (List.replicate k x ++ List.replicate (c - k) z) k (List.replicate m x) = List.replicate (k + m) x ++ List.replicate (c - (k + m)) z := by
  unfold splice
  rw [List.take_left' (by simp), List.length_replicate, List.drop_append, List.length_replicate]
  rw [List.drop_eq_nil_of_le (by simp), List.nil_append, List.drop_replicate, ← List.append_assoc, List.replicate_append_replicate]
  congr 2
  omega

theorem owns_heap {w : World} {base g n : Nat} {e : TypeId} {xs : List Value} (h : w.ownsRow base e 1 (.slice (some ⟨g, 0, none⟩) n n) n xs) : w.heap[g]? = some (.cells xs.toArray e (0, 0)) := by
  obtain ⟨hl, ⟨h1, _⟩ | ⟨g', cap, cur, h1, _, hg, _, _, hcs, htake⟩⟩ := h
  · simp at h1
  · simp only [Value.slice.injEq, Option.some.injEq, Addr.mk.injEq, and_true, true_and] at h1
    obtain ⟨rfl, rfl⟩ := h1
    rw [List.take_of_length_le (by simp [hcs])] at htake
    rw [hg, ← htake]
theorem heap_owns {w : World} {base g n : Nat} {e : TypeId} {xs : List Value} (h : w.heap[g]? = some (.cells xs.toArray e (0, 0))) (hb : base ≤ g) (hl : xs.length = n) (hm : n ≤ maxLen) : w.ownsRow base e 1 (.slice (some ⟨g, 0, none⟩) n n) n xs :=
  ⟨by omega, .inr ⟨g, n, xs.toArray, rfl, hb, h, Nat.le_refl _, hm, by simp [hl], by simp [List.take_of_length_le, hl]⟩⟩
theorem made_row {w : World} {g : Nat} {e : TypeId} {z : Value} {n : Nat} (h : w.heap[g]? = some (.cells ((madeCells #[z] (n * 1)).toList).toArray e (0, 0))) : w.heap[g]? = some (.cells (List.replicate n z).toArray e (0, 0)) := by
  rw [h, toList_madeCells_one, Nat.mul_one]
theorem one_cell {w : World} {b : Nat} {v : Value} (h : w.cell? ⟨b, 0, none⟩ = some v) : ∀ (j : Nat) (u : Value), (List.replicate 1 v)[j]? = some u → w.cell? ((⟨b, 0, none⟩ : Addr).add j) = some u := by
  intro j u hj
  cases j with
  | zero => simp at hj; subst hj; exact h
  | succ j => simp at hj

theorem below_drew1 {B : Nat} {a w : World} (h : Below B a w) : Below B a w.drew := h.drew
theorem row_src {w : World} {g : Nat} {e : TypeId} {v z : Value} {k n m : Nat} (h : w.heap[g]? = some (.cells (List.replicate k v ++ List.replicate n z).toArray e (0, 0))) (hm : m ≤ k) : ∀ (j : Nat) (u : Value), (List.replicate m v)[j]? = some u → w.cell? ((⟨g, 0, none⟩ : Addr).add j) = some u := by
  intro j u hj
  have hjm : j < m := by
    rcases Nat.lt_or_ge j m with h | h
    · exact h
    · rw [List.getElem?_eq_none (by simpa using h)] at hj; simp at hj
  rw [add_plain, Nat.zero_add, cell_of_row w g j _ e (0, 0) h]
  simp only [List.getElem?_toArray]
  rw [List.getElem?_append_left (by simp; omega)]
  simp only [List.getElem?_replicate] at hj ⊢
  rw [if_pos hjm] at hj
  rw [if_pos (by omega), hj]

/-- one more round: m cells from the beginning are laid behind the first k -/
theorem copy_rep {P : Program} {w w0 : World} {dT ty T : TypeId} {g k m dl dc c B : Nat} {v z : Value} (hu : P.underlying dT = some (.slice T)) (hs : (P.info? T).map (·.size) = some 1) (hg : w.heap[g]? = some (.cells (List.replicate k v ++ List.replicate (c - k) z).toArray T (0, 0)))
    (hmin : m = Nat.min k dl) (hmk : m ≤ k) (hfit : k + m ≤ c) (h1 : v.oneCell' = true) (hb : Below B w0 w) (hB : B ≤ g) :
    ∃ W, (Builtin.copy_ #[dT, dT] ty #[.slice (some ⟨g, k, none⟩) dl dc, .slice (some ⟨g, 0, none⟩) k c]).run P w = .ok (.int .i64 (m : Int)) W ∧ W.heap[g]? = some (.cells (List.replicate (k + m) v ++ List.replicate (c - (k + m)) z).toArray T (0, 0)) ∧ Below B w0 W := by
  have hrun := run_copy_row (P := P) w dT dT ty T g k dl dc ⟨g, 0, none⟩ k c _ T (List.replicate m v) hu hs hg (by simpa using hmin) (row_src hg hmk) (by simp; omega) (fun x hx => by rw [List.eq_of_mem_replicate hx]; exact h1)
  refine ⟨w.setRow g _, hrun.trans (by rw [List.length_replicate]; rfl), ?_, below_setRow hb hB _⟩
  rw [setRow_heap w g _ _ T _ hg]
  have := splice_rep v z k m c hfit
  unfold splice at this
  simp only [List.append_assoc]
  simp only [List.length_replicate] at this ⊢
  rw [this]

set_option maxRecDepth 100000 in
set_option maxHeartbeats 1600000 in
theorem repInt_any (b : Nat) (x : Int) (w : World) (h : w.cell? ⟨b, 0, none⟩ = some (Value.int .i64 x)) :
    Calls Try.prog 126 #[.slice (some ⟨b, 0, none⟩) 1 1, .int .i64 6] w fun e w' => ∃ v fp, e = .returned v ∧ SlR 1 intR w' (List.replicate 6 x) v fp ∧ New fp w w' ∧ Below w.heap.size w w' := by
  have hbl := block_of_cell h
  obtain ⟨i0, hi, hz0, hz1, hz2⟩ := info_parts infoInt
  have hsz := Lib.hid (show (Try.prog.info? 3).map (·.size) = some 1 by kernel_rfl)
  have H := Lib.hid h
  clear h
  go_enter Try.func126, Try.ntmps126
  go_wp2_with (first
    | (go_at_call 168; refine (mul_small 6 (by omega) (by omega) _).mono ?_; rintro e w' ⟨rfl, rfl⟩)
    | (at_make; refine wpList_make_full _ rfl _ _ 23 rfl w.heap.size 3 i0 (Value.int .i64 0) 1 Try.underlying23 hi hz0 hz1 _ _ _ _ 6 rfl rfl rfl rfl (by rw [hz2]; omega) (by unfold maxLen; omega) (by simp) ?_; intro w1 hown hgr; have HR := Lib.hid (owns_heap hown); have HB := Lib.hid (below_of_grown hgr); clear hown hgr)
    | (refine wpList_copy_splice (o := ⟨some 33, _, _, _, _, _⟩) rfl (.tmp 31) (.tmp 32) 23 23 rfl 3 Try.underlying23 hsz.out (some ⟨w.heap.size, 0, none⟩) (some ⟨b, 0, none⟩) 6 6 1 1 rfl rfl w.heap.size 0 (List.replicate 6 (Value.int .i64 0)) 3 (made_row HR.out) (List.replicate 1 (Value.int .i64 x)) rfl (fun _ => ⟨rfl, _, rfl, one_cell (keep_cell HB.out H.out)⟩) (by simp) (by simp [Value.oneCell']) w.heap.size w HB.out (Nat.le_refl _) ?_; intro w2 HG2 hB2; have HB2 := Lib.hid hB2; clear hB2))
  have hrow : w2.heap[w.heap.size]? = some (.cells (List.replicate 1 (Value.int .i64 x) ++ List.replicate (6 - 1) (Value.int .i64 0)).toArray 3 (0, 0)) := HG2.out
  have HRow := Lib.hid hrow
  clear hrow HG2
  go_loopw [8] (fun n wr => ∃ k : Nat, (k = 1 ∨ k = 2 ∨ k = 4 ∨ k = 6) ∧ n = .int .i64 k ∧ wr.heap[w.heap.size]? = some (.cells (List.replicate k (Value.int .i64 x) ++ List.replicate (6 - k) (Value.int .i64 0)).toArray 3 (0, 0)) ∧ Below w.heap.size w wr) (fun n _ => 6 - (intOf n).toNat)
  case atStart => exact ⟨1, .inl rfl, rfl, HRow.out, HB2.out⟩
  case round =>
    obtain ⟨k, hk, rfl, hrow, hb⟩ := hrel
    have HR3 := Lib.hid hrow
    have HB3 := Lib.hid hb
    clear hrow hb HRow
    rcases hk with rfl | rfl | rfl | rfl
    · obtain ⟨W3, hrun, hrow3, hb3⟩ := copy_rep (P := Try.prog) (w := wr.drew) (dT := 23) (ty := 3) (T := 3) (g := w.heap.size) (k := 1) (m := 1) (dl := 5) (dc := 5) (c := 6) Try.underlying23 hsz.out HR3.out (by decide) (by omega) (by omega) (by rfl) (below_drew1 HB3.out) (Nat.le_refl _)
      have HR4 := Lib.hid hrow3
      have HB4 := Lib.hid hb3
      clear hrow3 hb3
      go_wp2_with fail
      go_region_with (fail)
      all_goals go_wp2
      all_goals go_roundw
      all_goals first
        | (case rel =>
             (repeat apply Exists.intro)
             exact ⟨⟨2, by omega, by go_num, HR4.out, HB4.out⟩, rfl⟩)
        | skip
      case measure => exact (by decide : ((6 : Nat) - 2) < 6 - 1)
    · obtain ⟨W3, hrun, hrow3, hb3⟩ := copy_rep (P := Try.prog) (w := wr.drew) (dT := 23) (ty := 3) (T := 3) (g := w.heap.size) (k := 2) (m := 2) (dl := 4) (dc := 4) (c := 6) Try.underlying23 hsz.out HR3.out (by decide) (by omega) (by omega) (by rfl) (below_drew1 HB3.out) (Nat.le_refl _)
      have HR4 := Lib.hid hrow3
      have HB4 := Lib.hid hb3
      clear hrow3 hb3
      go_wp2_with fail
      go_region_with (fail)
      all_goals go_wp2
      all_goals go_roundw
      all_goals first
        | (case rel =>
             (repeat apply Exists.intro)
             exact ⟨⟨4, by omega, by go_num, HR4.out, HB4.out⟩, rfl⟩)
        | skip
      case measure => exact (by decide : ((6 : Nat) - 4) < 6 - 2)
    · obtain ⟨W3, hrun, hrow3, hb3⟩ := copy_rep (P := Try.prog) (w := wr.drew) (dT := 23) (ty := 3) (T := 3) (g := w.heap.size) (k := 4) (m := 2) (dl := 2) (dc := 2) (c := 6) Try.underlying23 hsz.out HR3.out (by decide) (by omega) (by omega) (by rfl) (below_drew1 HB3.out) (Nat.le_refl _)
      have HR4 := Lib.hid hrow3
      have HB4 := Lib.hid hb3
      clear hrow3 hb3
      go_wp2_with fail
      go_region_with (fail)
      all_goals go_wp2
      all_goals go_roundw
      all_goals first
        | (case rel =>
             (repeat apply Exists.intro)
             exact ⟨⟨6, by omega, by go_num, HR4.out, HB4.out⟩, rfl⟩)
        | skip
      case measure => exact (by decide : ((6 : Nat) - 6) < 6 - 4)
    · obtain ⟨fp', g1, g2, g3, g4⟩ := IntS.of_owns (l := List.replicate 6 x) (heap_owns (e := 3) (base := w.heap.size) (n := 6) (xs := (List.replicate 6 x).map (Value.int .i64)) (by rw [HR3.out]; simp) (Nat.le_refl _) (by simp) (by decide))
      have HG1 := Lib.hid g1
      have HG2 := Lib.hid g2
      have HG3 := Lib.hid g3
      have HG4 := Lib.hid g4
      clear g1 g2 g3 g4
      go_wp2
      go_ret
      exact ⟨_, fp', rfl, HG1.out, ⟨HG2.out, HG3.out, HG4.out⟩, HB3.out⟩

set_option maxRecDepth 100000 in
set_option maxHeartbeats 1600000 in
theorem repBool_any (b : Nat) (x : Bool) (w : World) (h : w.cell? ⟨b, 0, none⟩ = some (Value.bool x)) :
    Calls Try.prog 117 #[.slice (some ⟨b, 0, none⟩) 1 1, .int .i64 3] w fun e w' => ∃ v fp, e = .returned v ∧ SlR 1 boolR w' (List.replicate 3 x) v fp ∧ New fp w w' ∧ Below w.heap.size w w' := by
  have hbl := block_of_cell h
  obtain ⟨i0, hi, hz0, hz1, hz2⟩ := info_parts infoBool
  have hsz := Lib.hid (show (Try.prog.info? 4).map (·.size) = some 1 by kernel_rfl)
  have H := Lib.hid h
  clear h
  go_enter Try.func117, Try.ntmps117
  go_wp2_with (first
    | (go_at_call 168; refine (mul_small 3 (by omega) (by omega) _).mono ?_; rintro e w' ⟨rfl, rfl⟩)
    | (at_make; refine wpList_make_full _ rfl _ _ 84 rfl w.heap.size 4 i0 (.bool false) 1 Try.underlying84 hi hz0 hz1 _ _ _ _ 3 rfl rfl rfl rfl (by rw [hz2]; omega) (by unfold maxLen; omega) (by simp) ?_; intro w1 hown hgr; have HR := Lib.hid (owns_heap hown); have HB := Lib.hid (below_of_grown hgr); clear hown hgr)
    | (refine wpList_copy_splice (o := ⟨some 33, _, _, _, _, _⟩) rfl (.tmp 31) (.tmp 32) 84 84 rfl 4 Try.underlying84 hsz.out (some ⟨w.heap.size, 0, none⟩) (some ⟨b, 0, none⟩) 3 3 1 1 rfl rfl w.heap.size 0 (List.replicate 3 (Value.bool false)) 4 (made_row HR.out) (List.replicate 1 (Value.bool x)) rfl (fun _ => ⟨rfl, _, rfl, one_cell (keep_cell HB.out H.out)⟩) (by simp) (by simp [Value.oneCell']) w.heap.size w HB.out (Nat.le_refl _) ?_; intro w2 HG2 hB2; have HB2 := Lib.hid hB2; clear hB2))
  have hrow : w2.heap[w.heap.size]? = some (.cells (List.replicate 1 (Value.bool x) ++ List.replicate (3 - 1) (Value.bool false)).toArray 4 (0, 0)) := HG2.out
  have HRow := Lib.hid hrow
  clear hrow HG2
  go_loopw [8] (fun n wr => ∃ k : Nat, (k = 1 ∨ k = 2 ∨ k = 3) ∧ n = .int .i64 k ∧ wr.heap[w.heap.size]? = some (.cells (List.replicate k (Value.bool x) ++ List.replicate (3 - k) (Value.bool false)).toArray 4 (0, 0)) ∧ Below w.heap.size w wr) (fun n _ => 3 - (intOf n).toNat)
  case atStart => exact ⟨1, .inl rfl, rfl, HRow.out, HB2.out⟩
  case round =>
    obtain ⟨k, hk, rfl, hrow, hb⟩ := hrel
    have HR3 := Lib.hid hrow
    have HB3 := Lib.hid hb
    clear hrow hb HRow
    rcases hk with rfl | rfl | rfl
    · obtain ⟨W3, hrun, hrow3, hb3⟩ := copy_rep (P := Try.prog) (w := wr.drew) (dT := 84) (ty := 3) (T := 4) (g := w.heap.size) (k := 1) (m := 1) (dl := 2) (dc := 2) (c := 3) Try.underlying84 hsz.out HR3.out (by decide) (by omega) (by omega) (by rfl) (below_drew1 HB3.out) (Nat.le_refl _)
      have HR4 := Lib.hid hrow3
      have HB4 := Lib.hid hb3
      clear hrow3 hb3
      go_wp2_with fail
      go_region_with (fail)
      all_goals go_wp2
      all_goals go_roundw
      all_goals first
        | (case rel =>
             (repeat apply Exists.intro)
             exact ⟨⟨2, by omega, by go_num, HR4.out, HB4.out⟩, rfl⟩)
        | skip
      case measure => exact (by decide : ((3 : Nat) - 2) < 3 - 1)
    · obtain ⟨W3, hrun, hrow3, hb3⟩ := copy_rep (P := Try.prog) (w := wr.drew) (dT := 84) (ty := 3) (T := 4) (g := w.heap.size) (k := 2) (m := 1) (dl := 1) (dc := 1) (c := 3) Try.underlying84 hsz.out HR3.out (by decide) (by omega) (by omega) (by rfl) (below_drew1 HB3.out) (Nat.le_refl _)
      have HR4 := Lib.hid hrow3
      have HB4 := Lib.hid hb3
      clear hrow3 hb3
      go_wp2_with fail
      go_region_with (fail)
      all_goals go_wp2
      all_goals go_roundw
      all_goals first
        | (case rel =>
             (repeat apply Exists.intro)
             exact ⟨⟨3, by omega, by go_num, HR4.out, HB4.out⟩, rfl⟩)
        | skip
      case measure => exact (by decide : ((3 : Nat) - 3) < 3 - 2)
    · obtain ⟨fp', g1, g2, g3, g4⟩ := BoolS.of_owns (l := List.replicate 3 x) (heap_owns (e := 4) (base := w.heap.size) (n := 3) (xs := (List.replicate 3 x).map (Value.bool)) (by rw [HR3.out]; simp) (Nat.le_refl _) (by simp) (by decide))
      have HG1 := Lib.hid g1
      have HG2 := Lib.hid g2
      have HG3 := Lib.hid g3
      have HG4 := Lib.hid g4
      clear g1 g2 g3 g4
      go_wp2
      go_ret
      exact ⟨_, fp', rfl, HG1.out, ⟨HG2.out, HG3.out, HG4.out⟩, HB3.out⟩

end Go.Proofs.Ytmmojgopeaelcaa
