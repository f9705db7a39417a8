/-
  A store with nothing held: AtmNew (both); markAtmState, heldAtmState.
-/
import Derived.Test.YtmmojgopeaelcaaProg
import Derived.Test.YtmmojgopeaelcaaBase
import Derived.Test.YtmmojgopeaelcaaAtm
import Derived.Test.YtmmojgopeaelcaaRep
import Derived.Test.YtmmojgopeaelcaaRow
import Derived.Test.YtmmojgopeaelcaaPush
import Derived.WalkSmall
namespace Go.Proofs.Ytmmojgopeaelcaa
set_option linter.unusedVariables false
set_option linter.unusedSimpArgs false
open Go.RowKit

theorem put2_0 {w : World} {b : Nat} {u : Value} (s t : Value) (h : w.cell? ⟨b, 0, none⟩ = some u) : ((w.setCell ⟨b, 0, none⟩ s).setCell ⟨b, 1, none⟩ t).cell? ⟨b, 0, none⟩ = some s :=
  (World.cell?_setCell_other _ _ _ _ (by simp)).trans (World.cell?_setCell_same _ _ _ h)
theorem put2_1 {w : World} {b : Nat} {u : Value} (s t : Value) (h : w.cell? ⟨b, 1, none⟩ = some u) : ((w.setCell ⟨b, 0, none⟩ s).setCell ⟨b, 1, none⟩ t).cell? ⟨b, 1, none⟩ = some t :=
  World.cell?_setCell_same _ _ _ ((World.cell?_setCell_other _ _ _ _ (by simp)).trans h)

theorem own_form {w : World} {base e size n : Nat} {v : Value} {xs : List Value} (h : w.ownsRow base e size v n xs) : ∃ (a : Option Addr) (n c : Nat), v = .slice a n c := by
  rcases h.2 with ⟨rfl, _⟩ | ⟨g, cap, cur, rfl, _⟩
  · exact ⟨_, _, _, rfl⟩
  · exact ⟨_, _, _, rfl⟩

/-- a store with nothing held -/
def atmNew : Atm := ⟨List.replicate 64 0, List.replicate 6 (-1)⟩

set_option maxRecDepth 100000 in
set_option maxHeartbeats 1600000 in
theorem iAtmNew_any (w : World) :
    Calls Try.prog 60 #[] w fun e w' => ∃ v0 fp0 v1 fp1, e = .returned (.agg #[v0, v1]) ∧ SlR 1 intR w' atmNew.mem v0 fp0 ∧ SlR 1 intR w' atmNew.holds v1 fp1 ∧ New (fp0 ++ fp1) w w' ∧ Below w.heap.size w w' := by
  go_enter Try.func60, Try.ntmps60
  go_wp2_with fail
  refine (iMemNew_any _).mono ?_
  rintro e w1 ⟨v0, fp0, rfl, g0, n0, b0⟩
  obtain ⟨a0, l0, k0, rfl⟩ := g0.form
  have z0 : w.heap.size < w1.heap.size := by have := b0.size; simp at this; omega
  have lo0 : ∀ b, b ∈ fp0 → w.heap.size < b := fun b hb => by have := n0.lo b hb; simp at this; omega
  have hi0 := g0.lt intR_fits
  have ba := below_alloc w1 (.cells #[.int .i64 (-1)] 3)
  have c0 := alloc_keep (keep_cell b0 (alloc1_new w _ _ 0 rfl)) (.cells #[.int .i64 (-1)] 3)
  have c1 := alloc_keep (keep_cell b0 (alloc1_new w _ _ 1 rfl)) (.cells #[.int .i64 (-1)] 3)
  have f0 : ∀ i, w1.frozen? ⟨w.heap.size, i, none⟩ = false := fun i => keep_free b0 (by simp) (World.frozen?_alloc_at _ _ _ _ rfl)
  have B1 := Lib.hid (((below_alloc w _).trans (b0.mono (by simp))).trans (ba.mono (by omega)))
  have G0 := Lib.hid (SlR.below intR_fits g0 ba)
  have F0 := Lib.hid (Free.below n0.free hi0 ba)
  have ON0 := Lib.hid n0.once
  have LO0 := Lib.hid lo0
  have HI0 := Lib.hid hi0
  have FZ := Lib.hid f0
  clear g0 n0 b0 ba lo0 hi0 f0
  go_wp2_with fail
  refine (repInt_any w1.heap.size (-1) _ (alloc1_new _ _ _ 0 rfl)).mono ?_
  rintro e w2 ⟨v1, fp1, rfl, g1, n1, b1⟩
  obtain ⟨a1, l1, k1, rfl⟩ := g1.form
  replace c0 := keep_cell b1 c0
  replace c1 := keep_cell b1 c1
  have f0 : w2.frozen? ⟨w.heap.size, 0, none⟩ = false := keep_free b1 (by simp; omega) ((World.frozen?_alloc_past _ _ _ z0).trans (FZ.out 0))
  have f1 : w2.frozen? ⟨w.heap.size, 1, none⟩ = false := keep_free b1 (by simp; omega) ((World.frozen?_alloc_past _ _ _ z0).trans (FZ.out 1))
  have lo1 : ∀ b, b ∈ fp1 → w1.heap.size < b := fun b hb => by have := n1.lo b hb; simp at this; omega
  have hB := B1.out.trans (b1.mono (by simp; omega))
  have G0' := SlR.below intR_fits G0.out b1
  have F0' := Free.below F0.out (fun b hb => by have := HI0.out b hb; simp; omega) b1
  have HB := Lib.hid hB
  have HG0 := Lib.hid G0'
  have HG1 := Lib.hid g1
  have HF0 := Lib.hid F0'
  have HN1 := Lib.hid n1
  have LO1 := Lib.hid lo1
  clear hB G0' F0' n1 b1 lo1 g1 FZ B1 G0 F0
  go_wp2
  have hsame : ∀ (fq : List Nat), (∀ b, b ∈ fq → w.heap.size < b) → ∀ {s t : Value}, Same fq w2 ((w2.setCell ⟨w.heap.size, 0, none⟩ s).setCell ⟨w.heap.size, 1, none⟩ t) := fun fq hq => by
    intro s t b hb
    have := hq b hb
    rw [Below.heap_setCell _ _ _ _ (by simp; omega), Below.heap_setCell _ _ _ _ (by simp; omega)]
  have h1 : ∀ b, b ∈ fp1 → w.heap.size < b := fun b hb => by have := LO1.out b hb; omega
  exact bodyPost_ret (v := .agg #[.slice a0 l0 k0, .slice a1 l1 k1]) (by simp [results, Try.results60, go_sem, put2_0 _ _ c0, put2_1 _ _ c1]) rfl
    ⟨_, fp0, _, fp1, rfl, HG0.out.same intR_fits (hsame _ LO0.out) (by simp), HG1.out.same intR_fits (hsame _ h1) (by simp),
      ⟨fun b hb => (List.mem_append.1 hb).elim (fun hb => Nat.le_of_lt (LO0.out b hb)) (fun hb => Nat.le_of_lt (h1 b hb)),
       nodup_app ON0.out HN1.out.once (fun b hb hb' => by have := HI0.out b hb; have := LO1.out b hb'; omega),
       (HF0.out.same (hsame _ LO0.out)).app (HN1.out.free.same (hsame _ h1))⟩, (HB.out.setCell (Nat.le_refl _) _).setCell (Nat.le_refl _) _⟩

set_option maxRecDepth 100000 in
set_option maxHeartbeats 3200000 in
theorem sAtmNew_any (w : World) :
    Calls Try.prog 170 #[] w fun e w' => ∃ v0 fp0 v1 fp1, e = .returned (.agg #[v0, v1]) ∧ SlR 1 intR w' atmNew.mem v0 fp0 ∧ SlR 1 intR w' atmNew.holds v1 fp1 ∧ New (fp0 ++ fp1) w w' ∧ Below w.heap.size w w' := by
  obtain ⟨i0, hi, hz0, hz1, hz2⟩ := info_parts infoInt
  go_enter Try.func170, Try.ntmps170
  go_wp2_with fail
  refine (sMemNew_any _).mono ?_
  rintro e w1 ⟨v0, fp0, rfl, g0, n0, b0⟩
  obtain ⟨a0, l0, k0, rfl⟩ := g0.form
  have z0 : w.heap.size < w1.heap.size := by have := b0.size; simp at this; omega
  have lo0 : ∀ b, b ∈ fp0 → w.heap.size < b := fun b hb => by have := n0.lo b hb; simp at this; omega
  have hi0 := g0.lt intR_fits
  have d0 := keep_cell b0 (alloc1_new w _ _ 0 rfl)
  have d1 := keep_cell b0 (alloc1_new w _ _ 1 rfl)
  have f0 : ∀ i, w1.frozen? ⟨w.heap.size, i, none⟩ = false := fun i => keep_free b0 (by simp) (World.frozen?_alloc_at _ _ _ _ rfl)
  have B1 := Lib.hid ((below_alloc w _).trans (b0.mono (by simp)))
  have G0 := Lib.hid g0
  have F0 := Lib.hid n0.free
  have ON0 := Lib.hid n0.once
  have LO0 := Lib.hid lo0
  have HI0 := Lib.hid hi0
  have FZ := Lib.hid f0
  have D0 := Lib.hid d0
  have D1 := Lib.hid d1
  clear g0 n0 b0 lo0 hi0 f0 d0 d1
  go_wp2_with fail
  go_loopw [2] (fun i wr => ∃ (k : Nat) (v : Value), k ≤ 6 ∧ i = .int .i64 k ∧ wr.cell? ⟨w1.heap.size, 0, none⟩ = some (.slice a0 l0 k0) ∧ wr.cell? ⟨w1.heap.size, 1, none⟩ = some v ∧ (∀ j, wr.frozen? ⟨w1.heap.size, j, none⟩ = false) ∧ wr.ownsRow (w1.heap.size + 1) 3 1 v k ((List.replicate k (-1 : Int)).map (Value.int .i64)) ∧ Below w1.heap.size w1 wr ∧ w1.heap.size + 1 ≤ wr.heap.size) (fun i _ => 6 - (intOf i).toNat)
  case atStart => exact ⟨0, _, by omega, rfl, alloc1_new w1 _ _ 0 rfl, alloc1_new w1 _ _ 1 rfl, fun j => World.frozen?_alloc_at _ _ _ _ rfl, World.ownsRow_nil _ _ _ _, below_alloc _ _, by simp⟩
  case round =>
    obtain ⟨k, v, hk, rfl, c0, c1, hf, hown, hb, hz⟩ := hrel
    obtain ⟨va, vn, vc, rfl⟩ := own_form hown
    have HO := Lib.hid hown
    have HB := Lib.hid hb
    have HF := Lib.hid hf
    have f1 := hf 1
    have hne : some w1.heap.size ≠ (Value.slice va vn vc).ownBlock := fun e => by have := (hown.lt _ e.symm).1; omega
    have HNE := Lib.hid hne
    clear hown hb hf hne
    by_cases hlt : k < 6
    · go_wp2_with (at_builtin; refine wpList_push rfl _ _ 23 3 i0 (.int .i64 0) 1 8 3 rfl Try.underlying23 hi hz0 hz1 hz2 rfl (by decide) (by decide) rfl rfl HO.out (news := [.int .i64 (-1)]) rfl (by simp [Value.oneCell']) (by omega) HB.out (by omega) (by omega) ?_; intro v' w3 hown' hbel' hsz' hgr; obtain ⟨ua, un, uc, rfl⟩ := own_form hown'; have x0 := hgr.cell c0 HNE.out; have x1 := hgr.cell c1 HNE.out; have y1 : w3.frozen? ⟨w1.heap.size, 1, none⟩ = false := (World.frozen?_of_block (hgr.block w1.heap.size (by omega) HNE.out)).trans (HF.out 1); have HF3 : Hid (∀ j, w3.frozen? ⟨w1.heap.size, j, none⟩ = false) := Lib.hid (fun j => (World.frozen?_of_block (hgr.block w1.heap.size (by omega) HNE.out)).trans (HF.out j)); have HO' := Lib.hid hown'; have HB' := Lib.hid hbel'; have HZ' := Lib.hid hsz'; clear hown' hbel' hgr hsz' c0 c1 f1)
      go_roundw
      case rel => exact ⟨k + 1, .slice ua un uc, by omega, by go_num, (World.cell?_setCell_other _ _ _ _ (by simp)).trans x0, World.cell?_setCell_same _ _ _ x1, fun j => (World.frozen?_setCell _ _ _ _).trans (HF3.out j), ownsRow_setCell_below (by simpa [List.replicate_succ'] using HO'.out) (by simp) _, HB'.out.setCell (Nat.le_refl _) _, by simp; have := HZ'.out; omega⟩
      case measure => simp [intOf]; omega
    · obtain rfl : k = 6 := by omega
      obtain ⟨fp1, g1, lo1, on1, fr1⟩ := IntS.of_owns HO.out
      have d0 := keep_cell HB.out D0.out
      have d1 := keep_cell HB.out D1.out
      have y0 : wr.frozen? ⟨w.heap.size, 0, none⟩ = false := keep_free HB.out z0 (FZ.out 0)
      have y1 : wr.frozen? ⟨w.heap.size, 1, none⟩ = false := keep_free HB.out z0 (FZ.out 1)
      have G0' := Lib.hid (SlR.below intR_fits G0.out HB.out)
      have F0' := Lib.hid (Free.below F0.out HI0.out HB.out)
      have hBw := Lib.hid (B1.out.trans (HB.out.mono (by omega)))
      have G1 := Lib.hid g1
      have L1 := Lib.hid lo1
      have O1 := Lib.hid on1
      have R1 := Lib.hid fr1
      clear g1 lo1 on1 fr1
      go_wp2
      have hsame : ∀ (fq : List Nat), (∀ b, b ∈ fq → w.heap.size < b) → ∀ {s t : Value}, Same fq wr ((wr.setCell ⟨w.heap.size, 0, none⟩ s).setCell ⟨w.heap.size, 1, none⟩ t) := fun fq hq => by
        intro s t b hb
        have := hq b hb
        rw [Below.heap_setCell _ _ _ _ (by simp; omega), Below.heap_setCell _ _ _ _ (by simp; omega)]
      have h1 : ∀ b, b ∈ fp1 → w.heap.size < b := fun b hb => by have := L1.out b hb; omega
      exact bodyPost_ret (v := .agg #[.slice a0 l0 k0, .slice va vn vc]) (by simp [results, Try.results170, go_sem, put2_0 _ _ d0, put2_1 _ _ d1]) rfl
        ⟨_, fp0, _, fp1, rfl, G0'.out.same intR_fits (hsame _ LO0.out) (by simp), G1.out.same intR_fits (hsame _ h1) (by simp),
          ⟨fun b hb => (List.mem_append.1 hb).elim (fun hb => Nat.le_of_lt (LO0.out b hb)) (fun hb => Nat.le_of_lt (h1 b hb)),
           nodup_app ON0.out O1.out (fun b hb hb' => by have := HI0.out b hb; have := L1.out b hb'; omega),
           (F0'.out.same (hsame _ LO0.out)).app (R1.out.same (hsame _ h1))⟩, (hBw.out.setCell (Nat.le_refl _) _).setCell (Nat.le_refl _) _⟩

end Go.Proofs.Ytmmojgopeaelcaa
