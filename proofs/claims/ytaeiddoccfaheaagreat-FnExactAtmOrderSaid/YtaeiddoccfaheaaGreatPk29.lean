/-
 Texts of this claim laid together: Rep AtmNew.
-/
import Derived.Test.YtaeiddoccfaheaaGreatProg
import Derived.Test.YtaeiddoccfaheaaGreatPk04
import Derived.Test.YtaeiddoccfaheaaGreatPk09
import Derived.Test.YtaeiddoccfaheaaGreatPk28
import Derived.Laws.CopyOwn
import Derived.Deep.RegionLaw
import Derived.RegionTactic
import Derived.OwnWalk
import Derived.Lib.Mul64
import Derived.Laws.Bits64b
import Derived.Test.YtaeiddoccfaheaaGreatPk14
import Derived.Test.YtaeiddoccfaheaaGreatPk11
import Derived.WalkSmall
set_option linter.unusedVariables false
set_option linter.unusedSimpArgs false
namespace Go.Proofs.YtaeiddoccfaheaaGreat
open Go.RowKit Go.ChangeShapes Go.WideShapes
theorem mul64_small (y : Int) (h0 : 0 <= y) (hy : y < 1000) (w : World) :
 Calls Tryz.prog 110 #[.int .u64 1, .int .u64 y] w fun e w' => e = .returned (.tuple #[.int .u64 0, .int .u64 y]) ∧ w = w' := by
 have e1 : bits .and .u64 1 4294967295 = 1 := by decide
 have e2 : bits .and .u64 y 4294967295 = y := by
  obtain ⟨n, rfl⟩ := Int.eq_ofNat_of_zero_le h0
  have h := bits_and_u64_nat n 4294967295 (by omega) (by omega)
  have e : n &&& 4294967295 = n % 4294967296 := Nat.and_two_pow_sub_one_eq_mod n 32
  rw [e, Nat.mod_eq_of_lt (by omega)] at h
  exact h
 have e3 : y / 4294967296 = 0 := by omega
 have e4 : bits .and .u64 0 4294967295 = 0 := by decide
 have e5 : IntKind.u64.wrap 0 = 0 := by decide
 have e6 : (0 : Int) / 4294967296 = 0 := by decide
 go_enter Tryz.func110, Tryz.ntmps110
 go_wp2
 go_ret2
 exact ⟨by simp [e4, e5, e6], rfl⟩
set_option maxRecDepth 100000 in
theorem mul_small (y : Int) (h0 : 0 <= y) (hy : y < 1000) (w : World) :
 Calls Tryz.prog 99 #[.int .u64 1, .int .u64 y] w fun e w' => e = .returned (.tuple #[.int .u64 0, .int .u64 y]) ∧ w = w' := by
 go_enter Tryz.func99, Tryz.ntmps99
 go_wp2_with (go_at_call 110; refine (mul64_small y h0 hy _).mono ?_; rintro e w' ⟨rfl, rfl⟩)
 go_ret2
 exact ⟨rfl, rfl⟩
theorem splice_rep (x : Value) (z : Value) (k m c : Nat) (h : k + m <= c) : splice (List.replicate k x ++ List.replicate (c - k) z) k (List.replicate m x) = List.replicate (k + m) x ++ List.replicate (c - (k + m)) z := by
 unfold splice
 rw [List.take_left' (by simp), List.length_replicate, List.drop_append, List.length_replicate]
 rw [List.drop_eq_nil_of_le (by simp), List.nil_append, List.drop_replicate, <- List.append_assoc, List.replicate_append_replicate]
 congr 2
 omega
theorem owns_heap {w : World} {base g n : Nat} {e : TypeId} {xs : List Value} (h : w.ownsRow base e 1 (.slice (some ⟨g, 0, none⟩) n n) n xs) : w.heap[g]? = some (.cells xs.toArray e (0, 0)) := by
 obtain ⟨hl, ⟨h1, _⟩ | ⟨g', cap, cur, h1, _, hg, _, _, hcs, htake⟩⟩ := h
 · simp at h1
 · simp only [Value.slice.injEq, Option.some.injEq, Addr.mk.injEq, and_true, true_and] at h1
   obtain ⟨rfl, rfl⟩ := h1
   rw [List.take_of_length_le (by simp [hcs])] at htake
   rw [hg, <- htake]
theorem heap_owns {w : World} {base g n : Nat} {e : TypeId} {xs : List Value} (h : w.heap[g]? = some (.cells xs.toArray e (0, 0))) (hb : base <= g) (hl : xs.length = n) (hm : n <= maxLen) : w.ownsRow base e 1 (.slice (some ⟨g, 0, none⟩) n n) n xs :=
 ⟨by omega, .inr ⟨g, n, xs.toArray, rfl, hb, h, Nat.le_refl _, hm, by simp [hl], by simp [List.take_of_length_le, hl]⟩⟩
theorem made_row {w : World} {g : Nat} {e : TypeId} {z : Value} {n : Nat} (h : w.heap[g]? = some (.cells ((madeCells #[z] (n * 1)).toList).toArray e (0, 0))) : w.heap[g]? = some (.cells (List.replicate n z).toArray e (0, 0)) := by
 rw [h, toList_madeCells_one, Nat.mul_one]
theorem one_cell {w : World} {b : Nat} {v : Value} (h : w.cell? ⟨b, 0, none⟩ = some v) : ∀ (j : Nat) (u : Value), (List.replicate 1 v)[j]? = some u -> w.cell? ((⟨b, 0, none⟩ : Addr).add j) = some u := by
 intro j u hj
 cases j with
 | zero => simp at hj; subst hj; exact h
 | succ j => simp at hj
theorem below_drew1 {B : Nat} {a w : World} (h : Below B a w) : Below B a w.drew := h.drew
theorem row_src {w : World} {g : Nat} {e : TypeId} {v z : Value} {k n m : Nat} (h : w.heap[g]? = some (.cells (List.replicate k v ++ List.replicate n z).toArray e (0, 0))) (hm : m <= k) : ∀ (j : Nat) (u : Value), (List.replicate m v)[j]? = some u -> w.cell? ((⟨g, 0, none⟩ : Addr).add j) = some u := by
 intro j u hj
 have hjm : j < m := by
  rcases Nat.lt_or_ge j m with h | h
  · exact h
  · rw [List.getElem?_eq_none (by simpa using h)] at hj; simp at hj
 rw [add_plain, Nat.zero_add, cell_of_row w g j _ e (0, 0) h]
 simp only [List.getElem?_toArray]
 rw [List.getElem?_append_left (by simp; omega)]
 simp only [List.getElem?_replicate] at hj ⊢
 rw [if_pos hjm] at hj
 rw [if_pos (by omega), hj]
theorem copy_rep {P : Program} {w w0 : World} {dT ty T : TypeId} {g k m dl dc c B : Nat} {v z : Value} (hu : P.underlying dT = some (.slice T)) (hs : (P.info? T).map (·.size) = some 1) (hg : w.heap[g]? = some (.cells (List.replicate k v ++ List.replicate (c - k) z).toArray T (0, 0)))
 (hmin : m = Nat.min k dl) (hmk : m <= k) (hfit : k + m <= c) (h1 : v.oneCell' = true) (hb : Below B w0 w) (hB : B <= g) :
 ∃ W, (Builtin.copy_ #[dT, dT] ty #[.slice (some ⟨g, k, none⟩) dl dc, .slice (some ⟨g, 0, none⟩) k c]).run P w = .ok (.int .i64 (m : Int)) W ∧ W.heap[g]? = some (.cells (List.replicate (k + m) v ++ List.replicate (c - (k + m)) z).toArray T (0, 0)) ∧ Below B w0 W := by
 have hrun := run_copy_row (P := P) w dT dT ty T g k dl dc ⟨g, 0, none⟩ k c _ T (List.replicate m v) hu hs hg (by simpa using hmin) (row_src hg hmk) (by simp; omega) (fun x hx => by rw [List.eq_of_mem_replicate hx]; exact h1)
 refine ⟨w.setRow g _, hrun.trans (by rw [List.length_replicate]; rfl), ?_, below_setRow hb hB _⟩
 rw [setRow_heap w g _ _ T _ hg]
 have := splice_rep v z k m c hfit
 unfold splice at this
 simp only [List.append_assoc]
 simp only [List.length_replicate] at this ⊢
 rw [this]
set_option maxRecDepth 100000 in
set_option maxHeartbeats 1600000 in
theorem repInt_any (b : Nat) (x : Int) (w : World) (h : w.cell? ⟨b, 0, none⟩ = some (Value.int .i64 x)) :
    Calls Tryz.prog 69 #[.slice (some ⟨b, 0, none⟩) 1 1, .int .i64 6] w fun e w' => ∃ v fp, e = .returned v ∧ SlR 1 intR w' (List.replicate 6 x) v fp ∧ New fp w w' ∧ Below w.heap.size w w' := by
  have hbl := block_of_cell h
  obtain ⟨i0, hi, hz0, hz1, hz2⟩ := info_parts infoInt
  have hsz := Lib.hid (show (Tryz.prog.info? 3).map (·.size) = some 1 by kernel_rfl)
  have H := Lib.hid h
  clear h
  go_enter Tryz.func69, Tryz.ntmps69
  go_wp2_with (first
    | (go_at_call 99; refine (mul_small 6 (by omega) (by omega) _).mono ?_; rintro e w' ⟨rfl, rfl⟩)
    | (at_make; refine wpList_make_full _ rfl _ _ 23 rfl w.heap.size 3 i0 (Value.int .i64 0) 1 Tryz.underlying23 hi hz0 hz1 _ _ _ _ 6 rfl rfl rfl rfl (by rw [hz2]; omega) (by unfold maxLen; omega) (by simp) ?_; intro w1 hown hgr; have HR := Lib.hid (owns_heap hown); have HB := Lib.hid (below_of_grown hgr); clear hown hgr)
    | (refine wpList_copy_splice (o := ⟨some 33, _, _, _, _, _⟩) rfl (.tmp 31) (.tmp 32) 23 23 rfl 3 Tryz.underlying23 hsz.out (some ⟨w.heap.size, 0, none⟩) (some ⟨b, 0, none⟩) 6 6 1 1 rfl rfl w.heap.size 0 (List.replicate 6 (Value.int .i64 0)) 3 (made_row HR.out) (List.replicate 1 (Value.int .i64 x)) rfl (fun _ => ⟨rfl, _, rfl, one_cell (keep_cell HB.out H.out)⟩) (by simp) (by simp [Value.oneCell']) w.heap.size w HB.out (Nat.le_refl _) ?_; intro w2 HG2 hB2; have HB2 := Lib.hid hB2; clear hB2))
  have hrow : w2.heap[w.heap.size]? = some (.cells (List.replicate 1 (Value.int .i64 x) ++ List.replicate (6 - 1) (Value.int .i64 0)).toArray 3 (0, 0)) := HG2.out
  have HRow := Lib.hid hrow
  clear hrow HG2
  go_loopw [8] (fun n wr => ∃ k : Nat, (k = 1 ∨ k = 2 ∨ k = 4 ∨ k = 6) ∧ n = .int .i64 k ∧ wr.heap[w.heap.size]? = some (.cells (List.replicate k (Value.int .i64 x) ++ List.replicate (6 - k) (Value.int .i64 0)).toArray 3 (0, 0)) ∧ Below w.heap.size w wr) (fun n _ => 6 - (intOf n).toNat)
  case atStart => exact ⟨1, .inl rfl, rfl, HRow.out, HB2.out⟩
  case round =>
    obtain ⟨k, hk, rfl, hrow, hb⟩ := hrel
    have HR3 := Lib.hid hrow
    have HB3 := Lib.hid hb
    clear hrow hb HRow
    rcases hk with rfl | rfl | rfl | rfl
    · obtain ⟨W3, hrun, hrow3, hb3⟩ := copy_rep (P := Tryz.prog) (w := wr.drew) (dT := 23) (ty := 3) (T := 3) (g := w.heap.size) (k := 1) (m := 1) (dl := 5) (dc := 5) (c := 6) Tryz.underlying23 hsz.out HR3.out (by decide) (by omega) (by omega) (by rfl) (below_drew1 HB3.out) (Nat.le_refl _)
      have HR4 := Lib.hid hrow3
      have HB4 := Lib.hid hb3
      clear hrow3 hb3
      go_wp2_with fail
      go_region_with (fail)
      all_goals go_wp2
      all_goals go_roundw
      all_goals first
        | (case rel =>
             (repeat apply Exists.intro)
             exact ⟨⟨2, by omega, by go_num, HR4.out, HB4.out⟩, rfl⟩)
        | skip
      case measure => exact (by decide : ((6 : Nat) - 2) < 6 - 1)
    · obtain ⟨W3, hrun, hrow3, hb3⟩ := copy_rep (P := Tryz.prog) (w := wr.drew) (dT := 23) (ty := 3) (T := 3) (g := w.heap.size) (k := 2) (m := 2) (dl := 4) (dc := 4) (c := 6) Tryz.underlying23 hsz.out HR3.out (by decide) (by omega) (by omega) (by rfl) (below_drew1 HB3.out) (Nat.le_refl _)
      have HR4 := Lib.hid hrow3
      have HB4 := Lib.hid hb3
      clear hrow3 hb3
      go_wp2_with fail
      go_region_with (fail)
      all_goals go_wp2
      all_goals go_roundw
      all_goals first
        | (case rel =>
             (repeat apply Exists.intro)
             exact ⟨⟨4, by omega, by go_num, HR4.out, HB4.out⟩, rfl⟩)
        | skip
      case measure => exact (by decide : ((6 : Nat) - 4) < 6 - 2)
    · obtain ⟨W3, hrun, hrow3, hb3⟩ := copy_rep (P := Tryz.prog) (w := wr.drew) (dT := 23) (ty := 3) (T := 3) (g := w.heap.size) (k := 4) (m := 2) (dl := 2) (dc := 2) (c := 6) Tryz.underlying23 hsz.out HR3.out (by decide) (by omega) (by omega) (by rfl) (below_drew1 HB3.out) (Nat.le_refl _)
      have HR4 := Lib.hid hrow3
      have HB4 := Lib.hid hb3
      clear hrow3 hb3
      go_wp2_with fail
      go_region_with (fail)
      all_goals go_wp2
      all_goals go_roundw
      all_goals first
        | (case rel =>
             (repeat apply Exists.intro)
             exact ⟨⟨6, by omega, by go_num, HR4.out, HB4.out⟩, rfl⟩)
        | skip
      case measure => exact (by decide : ((6 : Nat) - 6) < 6 - 4)
    · obtain ⟨fp', g1, g2, g3, g4⟩ := IntS.of_owns (l := List.replicate 6 x) (heap_owns (e := 3) (base := w.heap.size) (n := 6) (xs := (List.replicate 6 x).map (Value.int .i64)) (by rw [HR3.out]; simp) (Nat.le_refl _) (by simp) (by decide))
      have HG1 := Lib.hid g1
      have HG2 := Lib.hid g2
      have HG3 := Lib.hid g3
      have HG4 := Lib.hid g4
      clear g1 g2 g3 g4
      go_wp2
      go_ret
      exact ⟨_, fp', rfl, HG1.out, ⟨HG2.out, HG3.out, HG4.out⟩, HB3.out⟩
end Go.Proofs.YtaeiddoccfaheaaGreat
namespace Go.Proofs.YtaeiddoccfaheaaGreat
open Go.RowKit
theorem put2_0 {w : World} {b : Nat} {u : Value} (s t : Value) (h : w.cell? ⟨b, 0, none⟩ = some u) : ((w.setCell ⟨b, 0, none⟩ s).setCell ⟨b, 1, none⟩ t).cell? ⟨b, 0, none⟩ = some s :=
 (World.cell?_setCell_other _ _ _ _ (by simp)).trans (World.cell?_setCell_same _ _ _ h)
theorem put2_1 {w : World} {b : Nat} {u : Value} (s t : Value) (h : w.cell? ⟨b, 1, none⟩ = some u) : ((w.setCell ⟨b, 0, none⟩ s).setCell ⟨b, 1, none⟩ t).cell? ⟨b, 1, none⟩ = some t :=
 World.cell?_setCell_same _ _ _ ((World.cell?_setCell_other _ _ _ _ (by simp)).trans h)
theorem own_form {w : World} {base e size n : Nat} {v : Value} {xs : List Value} (h : w.ownsRow base e size v n xs) : ∃ (a : Option Addr) (n c : Nat), v = .slice a n c := by
 rcases h.2 with ⟨rfl, _⟩ | ⟨g, cap, cur, rfl, _⟩
 · exact ⟨_, _, _, rfl⟩
 · exact ⟨_, _, _, rfl⟩
def atmNew : Atm := ⟨List.replicate 64 0, List.replicate 6 (-1)⟩
set_option maxRecDepth 100000 in
set_option maxHeartbeats 1600000 in
theorem iAtmNew_any (w : World) :
 Calls Tryz.prog 32 #[] w fun e w' => ∃ v0 fp0 v1 fp1, e = .returned (.agg #[v0, v1]) ∧ SlR 1 intR w' atmNew.mem v0 fp0 ∧ SlR 1 intR w' atmNew.holds v1 fp1 ∧ New (fp0 ++ fp1) w w' ∧ Below w.heap.size w w' := by
 go_enter Tryz.func32, Tryz.ntmps32
 go_wp2_with fail
 refine (iMemNew_any _).mono ?_
 rintro e w1 ⟨v0, fp0, rfl, g0, n0, b0⟩
 obtain ⟨a0, l0, k0, rfl⟩ := g0.form
 have z0 : w.heap.size < w1.heap.size := by have := b0.size; simp at this; omega
 have lo0 : ∀ b, b ∈ fp0 -> w.heap.size < b := fun b hb => by have := n0.lo b hb; simp at this; omega
 have hi0 := g0.lt intR_fits
 have ba := below_alloc w1 (.cells #[.int .i64 (-1)] 3)
 have c0 := alloc_keep (keep_cell b0 (alloc1_new w _ _ 0 rfl)) (.cells #[.int .i64 (-1)] 3)
 have c1 := alloc_keep (keep_cell b0 (alloc1_new w _ _ 1 rfl)) (.cells #[.int .i64 (-1)] 3)
 have f0 : ∀ i, w1.frozen? ⟨w.heap.size, i, none⟩ = false := fun i => keep_free b0 (by simp) (World.frozen?_alloc_at _ _ _ _ rfl)
 have B1 := Lib.hid (((below_alloc w _).trans (b0.mono (by simp))).trans (ba.mono (by omega)))
 have G0 := Lib.hid (SlR.below intR_fits g0 ba)
 have F0 := Lib.hid (Free.below n0.free hi0 ba)
 have ON0 := Lib.hid n0.once
 have LO0 := Lib.hid lo0
 have HI0 := Lib.hid hi0
 have FZ := Lib.hid f0
 clear g0 n0 b0 ba lo0 hi0 f0
 go_wp2_with fail
 refine (repInt_any w1.heap.size (-1) _ (alloc1_new _ _ _ 0 rfl)).mono ?_
 rintro e w2 ⟨v1, fp1, rfl, g1, n1, b1⟩
 obtain ⟨a1, l1, k1, rfl⟩ := g1.form
 replace c0 := keep_cell b1 c0
 replace c1 := keep_cell b1 c1
 have f0 : w2.frozen? ⟨w.heap.size, 0, none⟩ = false := keep_free b1 (by simp; omega) ((World.frozen?_alloc_past _ _ _ z0).trans (FZ.out 0))
 have f1 : w2.frozen? ⟨w.heap.size, 1, none⟩ = false := keep_free b1 (by simp; omega) ((World.frozen?_alloc_past _ _ _ z0).trans (FZ.out 1))
 have lo1 : ∀ b, b ∈ fp1 -> w1.heap.size < b := fun b hb => by have := n1.lo b hb; simp at this; omega
 have hB := B1.out.trans (b1.mono (by simp; omega))
 have G0' := SlR.below intR_fits G0.out b1
 have F0' := Free.below F0.out (fun b hb => by have := HI0.out b hb; simp; omega) b1
 have HB := Lib.hid hB
 have HG0 := Lib.hid G0'
 have HG1 := Lib.hid g1
 have HF0 := Lib.hid F0'
 have HN1 := Lib.hid n1
 have LO1 := Lib.hid lo1
 clear hB G0' F0' n1 b1 lo1 g1 FZ B1 G0 F0
 go_wp2
 have hsame : ∀ (fq : List Nat), (∀ b, b ∈ fq -> w.heap.size < b) -> ∀ {s t : Value}, Same fq w2 ((w2.setCell ⟨w.heap.size, 0, none⟩ s).setCell ⟨w.heap.size, 1, none⟩ t) := fun fq hq => by
  intro s t b hb
  have := hq b hb
  rw [Below.heap_setCell _ _ _ _ (by simp; omega), Below.heap_setCell _ _ _ _ (by simp; omega)]
 have h1 : ∀ b, b ∈ fp1 -> w.heap.size < b := fun b hb => by have := LO1.out b hb; omega
 exact bodyPost_ret (v := .agg #[.slice a0 l0 k0, .slice a1 l1 k1]) (by simp [results, Tryz.results32, go_sem, put2_0 _ _ c0, put2_1 _ _ c1]) rfl
  ⟨_, fp0, _, fp1, rfl, HG0.out.same intR_fits (hsame _ LO0.out) (by simp), HG1.out.same intR_fits (hsame _ h1) (by simp),
   ⟨fun b hb => (List.mem_append.1 hb).elim (fun hb => Nat.le_of_lt (LO0.out b hb)) (fun hb => Nat.le_of_lt (h1 b hb)),
    nodup_app ON0.out HN1.out.once (fun b hb hb' => by have := HI0.out b hb; have := LO1.out b hb'; omega),
    (HF0.out.same (hsame _ LO0.out)).app (HN1.out.free.same (hsame _ h1))⟩, (HB.out.setCell (Nat.le_refl _) _).setCell (Nat.le_refl _) _⟩
set_option maxRecDepth 100000 in
set_option maxHeartbeats 3200000 in
theorem sAtmNew_any (w : World) :
 Calls Tryz.prog 24 #[] w fun e w' => ∃ v0 fp0 v1 fp1, e = .returned (.agg #[v0, v1]) ∧ SlR 1 intR w' atmNew.mem v0 fp0 ∧ SlR 1 intR w' atmNew.holds v1 fp1 ∧ New (fp0 ++ fp1) w w' ∧ Below w.heap.size w w' := by
 obtain ⟨i0, hi, hz0, hz1, hz2⟩ := info_parts infoInt
 go_enter Tryz.func24, Tryz.ntmps24
 go_wp2_with fail
 refine (sMemNew_any _).mono ?_
 rintro e w1 ⟨v0, fp0, rfl, g0, n0, b0⟩
 obtain ⟨a0, l0, k0, rfl⟩ := g0.form
 have z0 : w.heap.size < w1.heap.size := by have := b0.size; simp at this; omega
 have lo0 : ∀ b, b ∈ fp0 -> w.heap.size < b := fun b hb => by have := n0.lo b hb; simp at this; omega
 have hi0 := g0.lt intR_fits
 have d0 := keep_cell b0 (alloc1_new w _ _ 0 rfl)
 have d1 := keep_cell b0 (alloc1_new w _ _ 1 rfl)
 have f0 : ∀ i, w1.frozen? ⟨w.heap.size, i, none⟩ = false := fun i => keep_free b0 (by simp) (World.frozen?_alloc_at _ _ _ _ rfl)
 have B1 := Lib.hid ((below_alloc w _).trans (b0.mono (by simp)))
 have G0 := Lib.hid g0
 have F0 := Lib.hid n0.free
 have ON0 := Lib.hid n0.once
 have LO0 := Lib.hid lo0
 have HI0 := Lib.hid hi0
 have FZ := Lib.hid f0
 have D0 := Lib.hid d0
 have D1 := Lib.hid d1
 clear g0 n0 b0 lo0 hi0 f0 d0 d1
 go_wp2_with fail
 go_loopw [2] (fun i wr => ∃ (k : Nat) (v : Value), k <= 6 ∧ i = .int .i64 k ∧ wr.cell? ⟨w1.heap.size, 0, none⟩ = some (.slice a0 l0 k0) ∧ wr.cell? ⟨w1.heap.size, 1, none⟩ = some v ∧ (∀ j, wr.frozen? ⟨w1.heap.size, j, none⟩ = false) ∧ wr.ownsRow (w1.heap.size + 1) 3 1 v k ((List.replicate k (-1 : Int)).map (Value.int .i64)) ∧ Below w1.heap.size w1 wr ∧ w1.heap.size + 1 <= wr.heap.size) (fun i _ => 6 - (intOf i).toNat)
 case atStart => exact ⟨0, _, by omega, rfl, alloc1_new w1 _ _ 0 rfl, alloc1_new w1 _ _ 1 rfl, fun j => World.frozen?_alloc_at _ _ _ _ rfl, World.ownsRow_nil _ _ _ _, below_alloc _ _, by simp⟩
 case round =>
  obtain ⟨k, v, hk, rfl, c0, c1, hf, hown, hb, hz⟩ := hrel
  obtain ⟨va, vn, vc, rfl⟩ := own_form hown
  have HO := Lib.hid hown
  have HB := Lib.hid hb
  have HF := Lib.hid hf
  have f1 := hf 1
  have hne : some w1.heap.size ≠ (Value.slice va vn vc).ownBlock := fun e => by have := (hown.lt _ e.symm).1; omega
  have HNE := Lib.hid hne
  clear hown hb hf hne
  by_cases hlt : k < 6
  · go_wp2_with (at_builtin; refine wpList_push rfl _ _ 23 3 i0 (.int .i64 0) 1 8 3 rfl Tryz.underlying23 hi hz0 hz1 hz2 rfl (by decide) (by decide) rfl rfl HO.out (news := [.int .i64 (-1)]) rfl (by simp [Value.oneCell']) (by omega) HB.out (by omega) (by omega) ?_; intro v' w3 hown' hbel' hsz' hgr; obtain ⟨ua, un, uc, rfl⟩ := own_form hown'; have x0 := hgr.cell c0 HNE.out; have x1 := hgr.cell c1 HNE.out; have y1 : w3.frozen? ⟨w1.heap.size, 1, none⟩ = false := (World.frozen?_of_block (hgr.block w1.heap.size (by omega) HNE.out)).trans (HF.out 1); have HF3 : Hid (∀ j, w3.frozen? ⟨w1.heap.size, j, none⟩ = false) := Lib.hid (fun j => (World.frozen?_of_block (hgr.block w1.heap.size (by omega) HNE.out)).trans (HF.out j)); have HO' := Lib.hid hown'; have HB' := Lib.hid hbel'; have HZ' := Lib.hid hsz'; clear hown' hbel' hgr hsz' c0 c1 f1)
    go_roundw
    case rel => exact ⟨k + 1, .slice ua un uc, by omega, by go_num, (World.cell?_setCell_other _ _ _ _ (by simp)).trans x0, World.cell?_setCell_same _ _ _ x1, fun j => (World.frozen?_setCell _ _ _ _).trans (HF3.out j), ownsRow_setCell_below (by simpa [List.replicate_succ'] using HO'.out) (by simp) _, HB'.out.setCell (Nat.le_refl _) _, by simp; have := HZ'.out; omega⟩
    case measure => simp [intOf]; omega
  · obtain rfl : k = 6 := by omega
    obtain ⟨fp1, g1, lo1, on1, fr1⟩ := IntS.of_owns HO.out
    have d0 := keep_cell HB.out D0.out
    have d1 := keep_cell HB.out D1.out
    have y0 : wr.frozen? ⟨w.heap.size, 0, none⟩ = false := keep_free HB.out z0 (FZ.out 0)
    have y1 : wr.frozen? ⟨w.heap.size, 1, none⟩ = false := keep_free HB.out z0 (FZ.out 1)
    have G0' := Lib.hid (SlR.below intR_fits G0.out HB.out)
    have F0' := Lib.hid (Free.below F0.out HI0.out HB.out)
    have hBw := Lib.hid (B1.out.trans (HB.out.mono (by omega)))
    have G1 := Lib.hid g1
    have L1 := Lib.hid lo1
    have O1 := Lib.hid on1
    have R1 := Lib.hid fr1
    clear g1 lo1 on1 fr1
    go_wp2
    have hsame : ∀ (fq : List Nat), (∀ b, b ∈ fq -> w.heap.size < b) -> ∀ {s t : Value}, Same fq wr ((wr.setCell ⟨w.heap.size, 0, none⟩ s).setCell ⟨w.heap.size, 1, none⟩ t) := fun fq hq => by
     intro s t b hb
     have := hq b hb
     rw [Below.heap_setCell _ _ _ _ (by simp; omega), Below.heap_setCell _ _ _ _ (by simp; omega)]
    have h1 : ∀ b, b ∈ fp1 -> w.heap.size < b := fun b hb => by have := L1.out b hb; omega
    exact bodyPost_ret (v := .agg #[.slice a0 l0 k0, .slice va vn vc]) (by simp [results, Tryz.results24, go_sem, put2_0 _ _ d0, put2_1 _ _ d1]) rfl
     ⟨_, fp0, _, fp1, rfl, G0'.out.same intR_fits (hsame _ LO0.out) (by simp), G1.out.same intR_fits (hsame _ h1) (by simp),
      ⟨fun b hb => (List.mem_append.1 hb).elim (fun hb => Nat.le_of_lt (LO0.out b hb)) (fun hb => Nat.le_of_lt (h1 b hb)),
       nodup_app ON0.out O1.out (fun b hb hb' => by have := HI0.out b hb; have := L1.out b hb'; omega),
       (F0'.out.same (hsame _ LO0.out)).app (R1.out.same (hsame _ h1))⟩, (hBw.out.setCell (Nat.le_refl _) _).setCell (Nat.le_refl _) _⟩
end Go.Proofs.YtaeiddoccfaheaaGreat
