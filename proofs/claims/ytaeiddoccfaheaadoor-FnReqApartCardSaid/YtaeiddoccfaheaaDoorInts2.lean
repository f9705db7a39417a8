/-
  What the functions on lists of numbers do: toIntS, markIntS, heldIntS.
-/
import Derived.Test.YtaeiddoccfaheaaDoorProg
import Derived.Test.YtaeiddoccfaheaaDoorBase
import Derived.Deep.QuietTactic
import Derived.BigQuiet
import Derived.OwnWalk
namespace Go.Proofs.YtaeiddoccfaheaaDoor
set_option linter.unusedVariables false
set_option linter.unusedSimpArgs false
open Go.RowKit

theorem infoInt : (Tryd.prog.info? 3).map (fun i => (i.zero, i.size, i.bytes)) = some (some (.int .i64 0), 1, 8) := by kernel_rfl

/-- the first k taken over, the others still nought -/
def part (l : List Int) (k : Nat) : List Value := (l.take k).map (Value.int .i64) ++ List.replicate (l.length - k) (.int .i64 0)
theorem part_len (l : List Int) (k : Nat) (h : k ≤ l.length) : (part l k).length = l.length := by simp [part]; omega
theorem part_zero (l : List Int) : part l 0 = List.replicate l.length (.int .i64 0) := by simp [part]
theorem part_all (l : List Int) (k : Nat) (h : l.length ≤ k) : part l k = l.map (Value.int .i64) := by simp [part, List.take_of_length_le h]; omega
theorem part_set (l : List Int) (k : Nat) (h : k < l.length) : (part l k).set k (.int .i64 l[k]) = part l (k + 1) := by
  have e : l.length - k = (l.length - (k + 1)) + 1 := by omega
  unfold part
  rw [List.set_append_right _ _ (by simp; omega), List.take_succ_eq_append_getElem h, e, List.replicate_succ]
  simp only [List.length_map, List.length_take, Nat.min_eq_left (Nat.le_of_lt h), Nat.sub_self, List.set_cons_zero, List.map_append, List.map_cons, List.map_nil, List.append_assoc, List.singleton_append]

theorem toIntS_any (v : Value) (l : List Int) (fp : List Nat) (hs : l.length ≤ 1048576) (w : World) (g : IntS w l v fp) :
    Calls Tryd.prog 26 #[v] w fun e w' => ∃ v' fp', e = .returned v' ∧ IntS w' l v' fp' ∧ New fp' w w' ∧ Below w.heap.size w w' := by
  obtain ⟨a, n, cap, rfl, hn, hcap, hmax, hcm, r⟩ := g.opened
  have G := Lib.hid g
  have hns : n ≤ 1048576 := by rw [← hn.out]; exact hs
  clear g hs
  obtain ⟨i0, hi, hz0, hz1, hz2⟩ := info_parts infoInt
  go_enter Tryd.func26, Tryd.ntmps26
  go_wp2_with (at_make; refine wpList_make_full _ rfl _ _ 22 rfl w.heap.size 3 i0 (.int .i64 0) 1 Tryd.underlying22 hi hz0 hz1 _ _ _ _ n rfl rfl rfl rfl (by rw [hz2]; omega) (by unfold maxLen; omega) (Nat.le_refl _) ?_; intro w1 hown hgr)
  go_loopw [4] (fun i wr => ∃ k : Nat, k ≤ n ∧ i = .int .i64 k ∧ wr.ownsRow w.heap.size 3 1 (.slice (some ⟨w.heap.size, 0, none⟩) n n) n (part l k) ∧ Below w.heap.size w wr) (fun i _ => n - (intOf i).toNat)
  case atStart => exact ⟨0, Nat.zero_le _, rfl, by rw [part_zero, hn.out, ← toList_madeCells_one, ← Nat.mul_one n]; simpa [Value.cells] using hown, (Below.refl _ _).grown hgr (Nat.le_refl _) (fun k hk => by simp at hk)⟩
  case round =>
    clear hown hgr
    obtain ⟨k, hk, rfl, hown, hbel⟩ := hrel
    by_cases hlt : k < n
    · obtain ⟨i1, b1, o1, rfl, hb1, _, e1⟩ := r k hlt
      have e1' := (hbel.cell (p := ⟨b1, o1 + k, none⟩) hb1).trans e1
      have hp := part_len l k (by rw [hn.out]; exact hk)
      obtain ⟨x, d1⟩ : ∃ x, wr.cell? ⟨w.heap.size, k, none⟩ = some x := ⟨(part l k)[k]'(by rw [hp]; exact i1), by rw [hown.cellAt k (by omega)]; exact List.getElem?_eq_getElem _⟩
      have d2 := hown.frozenAt k
      have HO := Lib.hid hown
      have HB := Lib.hid hbel
      clear hown hbel r hp e1
      go_wp2
      go_roundw
      case rel => exact ⟨k + 1, by omega, by go_num, by rw [← part_set l k i1]; exact (HO.out.stored k _).1, HB.out.setCell (Nat.le_refl _) _⟩
      case measure => simp [intOf]; omega
    · clear r
      have HB := Lib.hid hbel
      rw [part_all l k (by rw [hn.out]; omega)] at hown
      obtain ⟨fp', g1, g2, g3, g4⟩ := IntS.of_owns hown
      have HG1 := Lib.hid g1
      have HG2 := Lib.hid g2
      have HG3 := Lib.hid g3
      have HG4 := Lib.hid g4
      clear hbel hown g1 g2 g3 g4
      go_wp2
      go_ret
      exact ⟨_, fp', rfl, HG1.out, ⟨HG2.out, HG3.out, HG4.out⟩, HB.out⟩

/-- k, k + 1, .. -/
def marks (k : Int) (n : Nat) : List Int := (List.range n).map fun (i : Nat) => k + (i : Int)
theorem marks_len (k : Int) (n : Nat) : (marks k n).length = n := by simp [marks]
def mixed (l : List Int) (k : Int) (i : Nat) : List Int := marks k i ++ l.drop i
theorem mixed_len (l : List Int) (k : Int) (i : Nat) (h : i ≤ l.length) : (mixed l k i).length = l.length := by simp [mixed, marks]; omega
theorem mixed_zero (l : List Int) (k : Int) : mixed l k 0 = l := by simp [mixed, marks]
theorem mixed_all (l : List Int) (k : Int) (i : Nat) (h : l.length = i) : mixed l k i = marks k l.length := by simp [mixed, h]
theorem mixed_set (l : List Int) (k : Int) (i : Nat) (h : i < l.length) : (mixed l k i).set i (k + i) = mixed l k (i + 1) := by
  unfold mixed
  have e : marks k (i + 1) = marks k i ++ [k + (i : Int)] := by simp [marks, List.range_succ]
  rw [List.set_append_right _ _ (by simp [marks]), List.drop_eq_getElem_cons h, marks_len, Nat.sub_self, List.set_cons_zero, e, List.append_assoc]
  rfl
theorem marks_take (k : Int) (n i : Nat) (h : i ≤ n) : (marks k n).take i = marks k i := by
  simp [marks, List.take_range, Nat.min_eq_left h, ← List.map_take]
theorem marks_at (k : Int) (n i : Nat) (h : i < n) : (marks k n)[i]'(by rw [marks_len]; exact h) = k + i := by simp [marks]

/-- what 'held' returns -/
def heldR (l : List Int) (k : Int) : Int := if l = marks k l.length then k + l.length else -1

end Go.Proofs.YtaeiddoccfaheaaDoor
