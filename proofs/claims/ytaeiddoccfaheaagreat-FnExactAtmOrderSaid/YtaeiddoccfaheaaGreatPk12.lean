/-
 Texts of this claim laid together: Burst.
-/
import Derived.Test.YtaeiddoccfaheaaGreatProg
import Derived.Test.YtaeiddoccfaheaaGreatPk04
import Derived.Test.YtaeiddoccfaheaaGreatPk05
import Derived.Test.YtaeiddoccfaheaaGreatPk08
import Derived.Test.YtaeiddoccfaheaaGreatPk11
import Derived.RegionTactic
import Derived.ChangeAlike
set_option linter.unusedVariables false
set_option linter.unusedSimpArgs false
namespace Go.Proofs.YtaeiddoccfaheaaGreat
open Go.RowKit
def bval (a m : Int) (wr : Bool) (i : Nat) : Int := if wr then a - a % m + (a + i) % m else a + i
def burst (a : Int) (m : Nat) (wr : Bool) : List Int := (List.range m).map fun (i : Nat) => bval a m wr i
def adrBurst (a m : Int) (wr : Bool) : List Int := if adrOk a m wr then burst a m.toNat wr else []
def bpart (a : Int) (m : Nat) (wr : Bool) (k : Nat) : List Int := (List.range m).map fun (i : Nat) => if i < k then bval a m wr i else 0
theorem bpart_len (a : Int) (m : Nat) (wr : Bool) (k : Nat) : (bpart a m wr k).length = m := by simp [bpart]
theorem bpart_zero (a : Int) (m : Nat) (wr : Bool) : bpart a m wr 0 = List.replicate m 0 := by
 apply List.ext_getElem
 · simp [bpart]
 · intro i h1 h2; simp [bpart]
theorem bpart_all (a : Int) (m : Nat) (wr : Bool) (k : Nat) (h : m <= k) : bpart a m wr k = burst a m wr := by
 unfold bpart burst
 apply List.map_congr_left
 intro i hi
 have := List.mem_range.1 hi
 rw [if_pos (by omega)]
theorem bpart_set (a : Int) (m : Nat) (wr : Bool) (k : Nat) (x : Int) (hx : bval a m wr k = x) : (bpart a m wr k).set k x = bpart a m wr (k + 1) := by
 subst hx
 apply List.ext_getElem
 · simp [bpart]
 · intro i h1 h2
   rw [List.getElem_set]
   simp only [bpart, List.getElem_map, List.getElem_range]
   by_cases e : k = i
   · subst e; simp
   · rw [if_neg e]
     by_cases h : i < k
     · rw [if_pos h, if_pos (by omega)]
     · rw [if_neg h, if_neg (by omega)]
theorem iAdrBurst_false (a : Int) (m : Nat) (h : adrOk a m false = true) (w : World) :
 Calls Tryz.prog 101 #[.int .i64 a, .int .i64 m, .bool false] w fun e w' => ∃ v fp, e = .returned v ∧ IntS w' (burst a m false) v fp ∧ New fp w w' ∧ Below w.heap.size w w' := by
 obtain ⟨i0, hi, hz0, hz1, hz2⟩ := info_parts infoInt
 obtain ⟨a0, a1, hm, _⟩ := adrOk_true.1 h
 have H := Lib.hid h
 clear h
 have hm4 : m <= 4 := by omega
 have hm1 : 1 <= m := by omega
 have q0 : 0 <= a % (m : Int) := Int.emod_nonneg _ (by omega)
 have q1 : a % (m : Int) < m := Int.emod_lt_of_pos _ (by omega)
 go_enter Tryz.func101, Tryz.ntmps101
 go_wp2_with fail
 refine (iAdrOk_any _ _ _ _).mono ?_
 rw [H.out]
 rintro e w' ⟨rfl, rfl⟩
 go_wp2_with (at_make; refine wpList_make_full _ rfl _ _ 23 rfl w.heap.size 3 i0 (.int .i64 0) 1 Tryz.underlying23 hi hz0 hz1 _ _ _ _ m rfl rfl rfl rfl (by rw [hz2]; omega) (by unfold maxLen; omega) (Nat.le_refl _) ?_; intro w1 hown hgr)
 go_loopw [18] (fun i wr => ∃ k : Nat, k <= m ∧ i = .int .i64 k ∧ wr.ownsRow w.heap.size 3 1 (.slice (some ⟨w.heap.size, 0, none⟩) m m) m ((bpart a m false k).map (Value.int .i64)) ∧ Below w.heap.size w wr) (fun i _ => m - (intOf i).toNat)
 case atStart => exact ⟨0, Nat.zero_le _, rfl, by rw [bpart_zero, List.map_replicate, <- toList_madeCells_one, <- Nat.mul_one m]; simpa [Value.cells] using hown, (Below.refl _ _).grown hgr (Nat.le_refl _) (fun k hk => by simp at hk)⟩
 case round =>
  clear hown hgr
  obtain ⟨k, hk, rfl, hown, hbel⟩ := hrel
  by_cases hlt : k < m
  · obtain ⟨x, d1⟩ : ∃ x, wr.cell? ⟨w.heap.size, k, none⟩ = some x := ⟨_, by rw [hown.cellAt k (by omega)]; exact List.getElem?_eq_getElem (by rw [List.length_map, bpart_len]; exact hlt)⟩
    have d2 := hown.frozenAt k
    have HO := Lib.hid hown
    have HB := Lib.hid hbel
    clear hown hbel
    go_wp2
    go_roundw
    case rel =>
     have hs := (HO.out.stored k (.int .i64 (a + k))).1
     rw [<- List.map_set, bpart_set a m false k (a + k) (by simp [bval])] at hs
     exact ⟨k + 1, by omega, by go_num, hs, HB.out.setCell (Nat.le_refl _) _⟩
    case measure => simp [intOf]; omega
  · have HB := Lib.hid hbel
    rw [bpart_all a m false k (by omega)] at hown
    obtain ⟨fp', g1, g2, g3, g4⟩ := IntS.of_owns hown
    have HG1 := Lib.hid g1
    have HG2 := Lib.hid g2
    have HG3 := Lib.hid g3
    have HG4 := Lib.hid g4
    clear hbel hown g1 g2 g3 g4
    go_wp2
    go_ret
    exact ⟨_, fp', rfl, HG1.out, ⟨HG2.out, HG3.out, HG4.out⟩, HB.out⟩
theorem iAdrBurst_true (a : Int) (m : Nat) (h : adrOk a m true = true) (w : World) :
 Calls Tryz.prog 101 #[.int .i64 a, .int .i64 m, .bool true] w fun e w' => ∃ v fp, e = .returned v ∧ IntS w' (burst a m true) v fp ∧ New fp w w' ∧ Below w.heap.size w w' := by
 obtain ⟨i0, hi, hz0, hz1, hz2⟩ := info_parts infoInt
 obtain ⟨a0, a1, hm, _⟩ := adrOk_true.1 h
 have H := Lib.hid h
 clear h
 have hm4 : m <= 4 := by omega
 have hm1 : 1 <= m := by omega
 have q0 : 0 <= a % (m : Int) := Int.emod_nonneg _ (by omega)
 have q1 : a % (m : Int) < m := Int.emod_lt_of_pos _ (by omega)
 go_enter Tryz.func101, Tryz.ntmps101
 go_wp2_with fail
 refine (iAdrOk_any _ _ _ _).mono ?_
 rw [H.out]
 rintro e w' ⟨rfl, rfl⟩
 go_wp2_with (at_make; refine wpList_make_full _ rfl _ _ 23 rfl w.heap.size 3 i0 (.int .i64 0) 1 Tryz.underlying23 hi hz0 hz1 _ _ _ _ m rfl rfl rfl rfl (by rw [hz2]; omega) (by unfold maxLen; omega) (Nat.le_refl _) ?_; intro w1 hown hgr)
 go_loopw [18] (fun i wr => ∃ k : Nat, k <= m ∧ i = .int .i64 k ∧ wr.ownsRow w.heap.size 3 1 (.slice (some ⟨w.heap.size, 0, none⟩) m m) m ((bpart a m true k).map (Value.int .i64)) ∧ Below w.heap.size w wr) (fun i _ => m - (intOf i).toNat)
 case atStart => exact ⟨0, Nat.zero_le _, rfl, by rw [bpart_zero, List.map_replicate, <- toList_madeCells_one, <- Nat.mul_one m]; simpa [Value.cells] using hown, (Below.refl _ _).grown hgr (Nat.le_refl _) (fun k hk => by simp at hk)⟩
 case round =>
  clear hown hgr
  obtain ⟨k, hk, rfl, hown, hbel⟩ := hrel
  by_cases hlt : k < m
  · obtain ⟨x, d1⟩ : ∃ x, wr.cell? ⟨w.heap.size, k, none⟩ = some x := ⟨_, by rw [hown.cellAt k (by omega)]; exact List.getElem?_eq_getElem (by rw [List.length_map, bpart_len]; exact hlt)⟩
    have d2 := hown.frozenAt k
    have HO := Lib.hid hown
    have HB := Lib.hid hbel
    clear hown hbel
    have q2 : 0 <= (a + k) % (m : Int) := Int.emod_nonneg _ (by omega)
    have q3 : (a + k) % (m : Int) < m := Int.emod_lt_of_pos _ (by omega)
    go_wp2
    go_region
    all_goals go_wp2
    go_roundw
    case rel =>
     have hs := ((HO.out.stored k (.int .i64 (a + k))).1.stored k (.int .i64 (a - a % m + (a + k) % m))).1
     rw [List.set_set, <- List.map_set, bpart_set a m true k (a - a % m + (a + k) % m) (by simp [bval])] at hs
     exact ⟨k + 1, by omega, by go_num, hs, ((HB.out.setCell (Nat.le_refl _) _).setCell (Nat.le_refl _) _).drew⟩
    case measure => simp [intOf]; omega
  · have HB := Lib.hid hbel
    rw [bpart_all a m true k (by omega)] at hown
    obtain ⟨fp', g1, g2, g3, g4⟩ := IntS.of_owns hown
    have HG1 := Lib.hid g1
    have HG2 := Lib.hid g2
    have HG3 := Lib.hid g3
    have HG4 := Lib.hid g4
    clear hbel hown g1 g2 g3 g4
    go_wp2
    go_ret
    exact ⟨_, fp', rfl, HG1.out, ⟨HG2.out, HG3.out, HG4.out⟩, HB.out⟩
theorem iAdrBurst_no (a m : Int) (wr : Bool) (h : adrOk a m wr = false) (w : World) :
 Calls Tryz.prog 101 #[.int .i64 a, .int .i64 m, .bool wr] w fun e w' => e = .returned (.slice none 0 0) ∧ w = w' := by
 have H := Lib.hid h
 clear h
 go_enter Tryz.func101, Tryz.ntmps101
 go_wp2_with fail
 refine (iAdrOk_any _ _ _ _).mono ?_
 rw [H.out]
 rintro e w' ⟨rfl, rfl⟩
 go_wp2
 go_ret
 exact ⟨rfl, rfl⟩
theorem iAdrBurst_any (a m : Int) (wr : Bool) (w : World) :
 Calls Tryz.prog 101 #[.int .i64 a, .int .i64 m, .bool wr] w fun e w' => ∃ v fp, e = .returned v ∧ IntS w' (adrBurst a m wr) v fp ∧ New fp w w' ∧ Below w.heap.size w w' := by
 cases h : adrOk a m wr
 · refine (iAdrBurst_no a m wr h w).mono ?_
   rintro e w' ⟨rfl, rfl⟩
   exact ⟨_, [], rfl, by unfold adrBurst; rw [if_neg (by simp [h])]; exact ⟨none, 0, 0, rfl, rfl, Nat.le_refl _, by simp, .inl ⟨rfl, rfl⟩⟩, New.nil _ _, Below.refl _ _⟩
 · obtain ⟨_, _, hm, _⟩ := adrOk_true.1 h
   obtain ⟨n, rfl⟩ := Int.eq_ofNat_of_zero_le (show 0 <= m by omega)
   have e : adrBurst a n wr = burst a n wr := by unfold adrBurst; rw [if_pos h]; rfl
   rw [e]
   cases wr
   · exact iAdrBurst_false a n h w
   · exact iAdrBurst_true a n h w
theorem sval (a m : Int) (k : Nat) (wr : Bool) : (if wr then a - a % m + ((a - (a - a % m)) + k) % m else a + k) = bval a m wr k := by
 unfold bval
 cases wr
 · rfl
 · simp only [if_true]
   have : (a - (a - a % m) + (k : Int)) % m = (a + k) % m := by
    rw [show a - (a - a % m) + (k : Int) = a % m + k by omega, Int.emod_add_emod]
   rw [this]
theorem burst_succ (a : Int) (m k : Nat) (wr : Bool) : ((List.range k).map fun (i : Nat) => bval a m wr i) ++ [bval a m wr k] = (List.range (k + 1)).map fun (i : Nat) => bval a m wr i := by
 simp [List.range_succ]
theorem sAdrBurst_false (a : Int) (m : Nat) (h : adrOk a m false = true) (w : World) :
 Calls Tryz.prog 84 #[.int .i64 a, .int .i64 m, .bool false] w fun e w' => ∃ v fp, e = .returned v ∧ IntS w' (burst a m false) v fp ∧ New fp w w' ∧ Below w.heap.size w w' := by
 obtain ⟨i0, hi, hz0, hz1, hz2⟩ := info_parts infoInt
 obtain ⟨a0, a1, hm, _⟩ := adrOk_true.1 h
 have H := Lib.hid h
 clear h
 have hm4 : m <= 4 := by omega
 have hm1 : 1 <= m := by omega
 have q0 : 0 <= a % (m : Int) := Int.emod_nonneg _ (by omega)
 have q1 : a % (m : Int) < m := Int.emod_lt_of_pos _ (by omega)
 go_enter Tryz.func84, Tryz.ntmps84
 go_wp2_with fail
 refine (sAdrOk_any _ _ _ _).mono ?_
 rw [H.out]
 rintro e w' ⟨rfl, rfl⟩
 go_wp2_with fail
 go_loopw [7, 9] (fun v i wr => ∃ k : Nat, k <= m ∧ i = .int .i64 k ∧ wr.ownsRow w.heap.size 3 1 v k (((List.range k).map fun (i : Nat) => bval a m false i).map (Value.int .i64)) ∧ Below w.heap.size w wr) (fun _ i _ => m - (intOf i).toNat)
 case atStart => exact ⟨0, Nat.zero_le _, rfl, World.ownsRow_lit w #[] 0 (Nat.le_refl _) (by simp) rfl, below_alloc _ _⟩
 case round =>
  obtain ⟨k, hk, rfl, hown, hbel⟩ := hrel
  have HO := Lib.hid hown
  have HB := Lib.hid hbel
  clear hown hbel
  by_cases hlt : k < m
  · have q2 : 0 <= (a - (a - a % m) + k) % (m : Int) := Int.emod_nonneg _ (by omega)
    have q3 : (a - (a - a % m) + k) % (m : Int) < m := Int.emod_lt_of_pos _ (by omega)
    go_wp2_with (at_builtin; refine wpList_push rfl _ _ 23 3 i0 (.int .i64 0) 1 8 3 rfl Tryz.underlying23 hi hz0 hz1 hz2 rfl (by decide) (by decide) rfl rfl HO.out (news := [.int .i64 (a + k)]) rfl (by simp [Value.oneCell']) (by omega) HB.out (Nat.le_refl _) HB.out.size ?_; intro v' w1 hown' hbel' hsz' _; have HO' := Lib.hid hown'; have HB' := Lib.hid hbel'; clear hown' hbel')
    go_roundw
    case rel =>
     have e := sval a m k false
     simp only [if_false, Bool.false_eq_true] at e
     have ho := HO'.out
     rw [e, show ∀ l : List Int, l.map (Value.int .i64) ++ [.int .i64 (bval a m false k)] = (l ++ [bval a m false k]).map (Value.int .i64) from fun l => by simp, burst_succ] at ho
     exact ⟨k + 1, by omega, by go_num, ho, HB'.out⟩
    case measure => simp [intOf]; omega
  · obtain rfl : k = m := by omega
    obtain ⟨fp', g1, g2, g3, g4⟩ := IntS.of_owns HO.out
    have HG1 := Lib.hid g1
    have HG2 := Lib.hid g2
    have HG3 := Lib.hid g3
    have HG4 := Lib.hid g4
    clear g1 g2 g3 g4
    go_wp2
    go_ret
    exact ⟨_, fp', rfl, HG1.out, ⟨HG2.out, HG3.out, HG4.out⟩, HB.out⟩
theorem sAdrBurst_true (a : Int) (m : Nat) (h : adrOk a m true = true) (w : World) :
 Calls Tryz.prog 84 #[.int .i64 a, .int .i64 m, .bool true] w fun e w' => ∃ v fp, e = .returned v ∧ IntS w' (burst a m true) v fp ∧ New fp w w' ∧ Below w.heap.size w w' := by
 obtain ⟨i0, hi, hz0, hz1, hz2⟩ := info_parts infoInt
 obtain ⟨a0, a1, hm, _⟩ := adrOk_true.1 h
 have H := Lib.hid h
 clear h
 have hm4 : m <= 4 := by omega
 have hm1 : 1 <= m := by omega
 have q0 : 0 <= a % (m : Int) := Int.emod_nonneg _ (by omega)
 have q1 : a % (m : Int) < m := Int.emod_lt_of_pos _ (by omega)
 go_enter Tryz.func84, Tryz.ntmps84
 go_wp2_with fail
 refine (sAdrOk_any _ _ _ _).mono ?_
 rw [H.out]
 rintro e w' ⟨rfl, rfl⟩
 go_wp2_with fail
 go_loopw [7, 9] (fun v i wr => ∃ k : Nat, k <= m ∧ i = .int .i64 k ∧ wr.ownsRow w.heap.size 3 1 v k (((List.range k).map fun (i : Nat) => bval a m true i).map (Value.int .i64)) ∧ Below w.heap.size w wr) (fun _ i _ => m - (intOf i).toNat)
 case atStart => exact ⟨0, Nat.zero_le _, rfl, World.ownsRow_lit w #[] 0 (Nat.le_refl _) (by simp) rfl, below_alloc _ _⟩
 case round =>
  obtain ⟨k, hk, rfl, hown, hbel⟩ := hrel
  have HO := Lib.hid hown
  have HB := Lib.hid hbel
  clear hown hbel
  by_cases hlt : k < m
  · have q2 : 0 <= (a - (a - a % m) + k) % (m : Int) := Int.emod_nonneg _ (by omega)
    have q3 : (a - (a - a % m) + k) % (m : Int) < m := Int.emod_lt_of_pos _ (by omega)
    go_wp2_with (at_builtin; refine wpList_push rfl _ _ 23 3 i0 (.int .i64 0) 1 8 3 rfl Tryz.underlying23 hi hz0 hz1 hz2 rfl (by decide) (by decide) rfl rfl HO.out (news := [.int .i64 (a - a % m + (a - (a - a % m) + k) % m)]) rfl (by simp [Value.oneCell']) (by omega) HB.out (Nat.le_refl _) HB.out.size ?_; intro v' w1 hown' hbel' hsz' _; have HO' := Lib.hid hown'; have HB' := Lib.hid hbel'; clear hown' hbel')
    go_roundw
    case rel =>
     have e := sval a m k true
     simp only [if_true] at e
     have ho := HO'.out
     rw [e, show ∀ l : List Int, l.map (Value.int .i64) ++ [.int .i64 (bval a m true k)] = (l ++ [bval a m true k]).map (Value.int .i64) from fun l => by simp, burst_succ] at ho
     exact ⟨k + 1, by omega, by go_num, ho, HB'.out⟩
    case measure => simp [intOf]; omega
  · obtain rfl : k = m := by omega
    obtain ⟨fp', g1, g2, g3, g4⟩ := IntS.of_owns HO.out
    have HG1 := Lib.hid g1
    have HG2 := Lib.hid g2
    have HG3 := Lib.hid g3
    have HG4 := Lib.hid g4
    clear g1 g2 g3 g4
    go_wp2
    go_ret
    exact ⟨_, fp', rfl, HG1.out, ⟨HG2.out, HG3.out, HG4.out⟩, HB.out⟩
theorem sAdrBurst_no (a m : Int) (wr : Bool) (h : adrOk a m wr = false) (w : World) :
 Calls Tryz.prog 84 #[.int .i64 a, .int .i64 m, .bool wr] w fun e w' => ∃ v fp, e = .returned v ∧ IntS w' [] v fp ∧ New fp w w' ∧ Below w.heap.size w w' := by
 have H := Lib.hid h
 clear h
 go_enter Tryz.func84, Tryz.ntmps84
 go_wp2_with fail
 refine (sAdrOk_any _ _ _ _).mono ?_
 rw [H.out]
 rintro e w' ⟨rfl, rfl⟩
 go_wp2
 go_ret
 exact ⟨_, [], rfl, ⟨_, 0, 0, rfl, rfl, Nat.le_refl _, by simp, .inl ⟨rfl, rfl⟩⟩, New.nil _ _, below_alloc _ _⟩
theorem sAdrBurst_any (a m : Int) (wr : Bool) (w : World) :
 Calls Tryz.prog 84 #[.int .i64 a, .int .i64 m, .bool wr] w fun e w' => ∃ v fp, e = .returned v ∧ IntS w' (adrBurst a m wr) v fp ∧ New fp w w' ∧ Below w.heap.size w w' := by
 cases h : adrOk a m wr
 · have e : adrBurst a m wr = [] := by unfold adrBurst; rw [if_neg (by simp [h])]
   rw [e]
   exact sAdrBurst_no a m wr h w
 · obtain ⟨_, _, hm, _⟩ := adrOk_true.1 h
   obtain ⟨n, rfl⟩ := Int.eq_ofNat_of_zero_le (show 0 <= m by omega)
   have e : adrBurst a n wr = burst a n wr := by unfold adrBurst; rw [if_pos h]; rfl
   rw [e]
   cases wr
   · exact sAdrBurst_false a n h w
   · exact sAdrBurst_true a n h w
theorem bval_in (a : Int) (m : Nat) (wr : Bool) (h : adrOk a m wr = true) (i : Nat) (hi : i < m) : 0 <= bval a m wr i ∧ bval a m wr i <= 63 := by
 obtain ⟨a0, a1, hm, hw⟩ := adrOk_true.1 h
 unfold bval
 cases wr
 · simp only [Bool.false_eq_true, if_false, false_or] at hw ⊢
   omega
 · simp only [if_true]
   have hm' : m = 1 ∨ m = 2 ∨ m = 4 := by omega
   rcases hm' with rfl | rfl | rfl <;> simp <;> omega
theorem burst_at (a : Int) (m : Nat) (wr : Bool) (i : Nat) (hi : i < (burst a m wr).length) : (burst a m wr)[i] = bval a m wr i := by simp [burst]
theorem burst_len (a : Int) (m : Nat) (wr : Bool) : (burst a m wr).length = m := by simp [burst]
end Go.Proofs.YtaeiddoccfaheaaGreat
