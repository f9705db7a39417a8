/-
 Texts of this claim laid together: Ints Ints2.
-/
import Derived.Test.YtaeiddoccfaheaaGreatProg
import Derived.Test.YtaeiddoccfaheaaGreatPk04
import Derived.Deep.QuietTactic
import Derived.BigQuiet
import Derived.OwnWalk
set_option linter.unusedVariables false
set_option linter.unusedSimpArgs false
namespace Go.Proofs.YtaeiddoccfaheaaGreat
open Go.RowKit
theorem szIntS_any (v : Value) (l : List Int) (fp : List Nat) (left : Int) (h0 : 0 <= left) (h1 : left <= 1048576) (w : World) (hv : IntS w l v fp) :
 Calls Tryz.prog 21 #[v, .int .i64 left] w fun e w' => e = .returned (.int .i64 (szR left l.length)) ∧ w = w' := by
 obtain ⟨a, n, cap, rfl, hn, hcap, hmax, _, _⟩ := hv.opened
 rw [hn.out]
 clear hn hv
 by_cases h : left < n
 all_goals
  go_enter Tryz.func21, Tryz.ntmps21
  go_wp2
  go_ret
  refine ⟨ret_int ?_, rfl⟩
  unfold szR
  first | rw [if_pos (by omega)] | rw [if_neg (by omega)]
theorem eqIntS_any (v1 v2 : Value) (l1 l2 : List Int) (fp1 fp2 : List Nat) (w : World) (g1 : IntS w l1 v1 fp1) (g2 : IntS w l2 v2 fp2) :
 Calls Tryz.prog 37 #[v1, v2] w fun e w' => e = .returned (.bool (decide (l1 = l2))) ∧ ∃ n, w' = w.drewN n := by
 obtain ⟨a1, n1, c1, rfl, hn1, k1, m1, _, r1⟩ := g1.opened
 obtain ⟨a2, n2, c2, rfl, hn2, k2, m2, _, r2⟩ := g2.opened
 clear g1 g2
 by_cases hL : n2 = n1
 · obtain rfl := hL
   go_enter Tryz.func37, Tryz.ntmps37
   go_wp2
   go_loopw [5] (fun i wr => ∃ k : Nat, k <= n2 ∧ i = .int .i64 k ∧ l1.take k = l2.take k ∧ ∃ m, wr = w.drewN m) (fun i _ => n2 - (intOf i).toNat)
   case atStart => exact ⟨0, Nat.zero_le _, rfl, rfl, 0, rfl⟩
   case round =>
    obtain ⟨k, hk, rfl, ht, m, rfl⟩ := hrel
    have HT := Lib.hid ht
    clear ht
    by_cases hlt : k < n2
    · obtain ⟨i1, b1, o1, rfl, hb1, _, e1⟩ := r1 k hlt
      obtain ⟨i2, b2, o2, rfl, hb2, _, e2⟩ := r2 k hlt
      clear r1 r2
      by_cases hq : l1[k] = l2[k]
      · have hq' : (l1[k] != l2[k]) = false := by simp [hq]
        have HQ := Lib.hid hq
        clear hq
        go_wp2_with fail
        go_quiet (fail)
        go_wp2
        go_roundw
        case rel => exact ⟨k + 1, by omega, by go_num, take_succ_eq HT.out i1 i2 HQ.out, by (try simp only [World.drewN_drewN]); exact ⟨_, rfl⟩⟩
        case measure => simp [intOf]; omega
      · have hq' : (l1[k] != l2[k]) = true := by simp [hq]
        have HQ := Lib.hid hq
        clear hq
        go_wp2_with fail
        go_quiet (fail)
        go_wp2
        go_ret
        exact ⟨ret_bool (by simp; intro e; exact HQ.out (by simp [e])), by (try simp only [World.drewN_drewN]); exact ⟨_, rfl⟩⟩
    · clear r1 r2
      go_wp2
      go_ret
      exact ⟨ret_bool (by simp [take_all_eq HT.out hn1.out hn2.out (by omega)]), m, rfl⟩
 · clear r1 r2
   have hne : l1 ≠ l2 := fun e => hL (by rw [<- hn1.out, <- hn2.out, e])
   have hq : ((n1 : Int) != n2) = true := by simp; omega
   go_enter Tryz.func37, Tryz.ntmps37
   go_wp2
   go_ret
   exact ⟨ret_bool (by simp [hne]), 0, rfl⟩
end Go.Proofs.YtaeiddoccfaheaaGreat
namespace Go.Proofs.YtaeiddoccfaheaaGreat
open Go.RowKit
theorem infoInt : (Tryz.prog.info? 3).map (fun i => (i.zero, i.size, i.bytes)) = some (some (.int .i64 0), 1, 8) := by kernel_rfl
def part (l : List Int) (k : Nat) : List Value := (l.take k).map (Value.int .i64) ++ List.replicate (l.length - k) (.int .i64 0)
theorem part_len (l : List Int) (k : Nat) (h : k <= l.length) : (part l k).length = l.length := by simp [part]; omega
theorem part_zero (l : List Int) : part l 0 = List.replicate l.length (.int .i64 0) := by simp [part]
theorem part_all (l : List Int) (k : Nat) (h : l.length <= k) : part l k = l.map (Value.int .i64) := by simp [part, List.take_of_length_le h]; omega
theorem part_set (l : List Int) (k : Nat) (h : k < l.length) : (part l k).set k (.int .i64 l[k]) = part l (k + 1) := by
 have e : l.length - k = (l.length - (k + 1)) + 1 := by omega
 unfold part
 rw [List.set_append_right _ _ (by simp; omega), List.take_succ_eq_append_getElem h, e, List.replicate_succ]
 simp only [List.length_map, List.length_take, Nat.min_eq_left (Nat.le_of_lt h), Nat.sub_self, List.set_cons_zero, List.map_append, List.map_cons, List.map_nil, List.append_assoc, List.singleton_append]
theorem toIntS_any (v : Value) (l : List Int) (fp : List Nat) (hs : l.length <= 1048576) (w : World) (g : IntS w l v fp) :
 Calls Tryz.prog 28 #[v] w fun e w' => ∃ v' fp', e = .returned v' ∧ IntS w' l v' fp' ∧ New fp' w w' ∧ Below w.heap.size w w' := by
 obtain ⟨a, n, cap, rfl, hn, hcap, hmax, hcm, r⟩ := g.opened
 have G := Lib.hid g
 have hns : n <= 1048576 := by rw [<- hn.out]; exact hs
 clear g hs
 obtain ⟨i0, hi, hz0, hz1, hz2⟩ := info_parts infoInt
 go_enter Tryz.func28, Tryz.ntmps28
 go_wp2_with (at_make; refine wpList_make_full _ rfl _ _ 23 rfl w.heap.size 3 i0 (.int .i64 0) 1 Tryz.underlying23 hi hz0 hz1 _ _ _ _ n rfl rfl rfl rfl (by rw [hz2]; omega) (by unfold maxLen; omega) (Nat.le_refl _) ?_; intro w1 hown hgr)
 go_loopw [4] (fun i wr => ∃ k : Nat, k <= n ∧ i = .int .i64 k ∧ wr.ownsRow w.heap.size 3 1 (.slice (some ⟨w.heap.size, 0, none⟩) n n) n (part l k) ∧ Below w.heap.size w wr) (fun i _ => n - (intOf i).toNat)
 case atStart => exact ⟨0, Nat.zero_le _, rfl, by rw [part_zero, hn.out, <- toList_madeCells_one, <- Nat.mul_one n]; simpa [Value.cells] using hown, (Below.refl _ _).grown hgr (Nat.le_refl _) (fun k hk => by simp at hk)⟩
 case round =>
  clear hown hgr
  obtain ⟨k, hk, rfl, hown, hbel⟩ := hrel
  by_cases hlt : k < n
  · obtain ⟨i1, b1, o1, rfl, hb1, _, e1⟩ := r k hlt
    have e1' := (hbel.cell (p := ⟨b1, o1 + k, none⟩) hb1).trans e1
    have hp := part_len l k (by rw [hn.out]; exact hk)
    obtain ⟨x, d1⟩ : ∃ x, wr.cell? ⟨w.heap.size, k, none⟩ = some x := ⟨(part l k)[k]'(by rw [hp]; exact i1), by rw [hown.cellAt k (by omega)]; exact List.getElem?_eq_getElem _⟩
    have d2 := hown.frozenAt k
    have HO := Lib.hid hown
    have HB := Lib.hid hbel
    clear hown hbel r hp e1
    go_wp2
    go_roundw
    case rel => exact ⟨k + 1, by omega, by go_num, by rw [<- part_set l k i1]; exact (HO.out.stored k _).1, HB.out.setCell (Nat.le_refl _) _⟩
    case measure => simp [intOf]; omega
  · clear r
    have HB := Lib.hid hbel
    rw [part_all l k (by rw [hn.out]; omega)] at hown
    obtain ⟨fp', g1, g2, g3, g4⟩ := IntS.of_owns hown
    have HG1 := Lib.hid g1
    have HG2 := Lib.hid g2
    have HG3 := Lib.hid g3
    have HG4 := Lib.hid g4
    clear hbel hown g1 g2 g3 g4
    go_wp2
    go_ret
    exact ⟨_, fp', rfl, HG1.out, ⟨HG2.out, HG3.out, HG4.out⟩, HB.out⟩
def marks (k : Int) (n : Nat) : List Int := (List.range n).map fun (i : Nat) => k + (i : Int)
theorem marks_len (k : Int) (n : Nat) : (marks k n).length = n := by simp [marks]
def mixed (l : List Int) (k : Int) (i : Nat) : List Int := marks k i ++ l.drop i
theorem mixed_zero (l : List Int) (k : Int) : mixed l k 0 = l := by simp [mixed, marks]
theorem mixed_all (l : List Int) (k : Int) (i : Nat) (h : l.length = i) : mixed l k i = marks k l.length := by simp [mixed, h]
theorem mixed_set (l : List Int) (k : Int) (i : Nat) (h : i < l.length) : (mixed l k i).set i (k + i) = mixed l k (i + 1) := by
 unfold mixed
 have e : marks k (i + 1) = marks k i ++ [k + (i : Int)] := by simp [marks, List.range_succ]
 rw [List.set_append_right _ _ (by simp [marks]), List.drop_eq_getElem_cons h, marks_len, Nat.sub_self, List.set_cons_zero, e, List.append_assoc]
 rfl
theorem marks_at (k : Int) (n i : Nat) (h : i < n) : (marks k n)[i]'(by rw [marks_len]; exact h) = k + i := by simp [marks]
def heldR (l : List Int) (k : Int) : Int := if l = marks k l.length then k + l.length else -1
theorem markIntS_any (v : Value) (l : List Int) (fp : List Nat) (k : Int) (h0 : 0 <= k) (h1 : k <= 4611686018427387904) (hs : l.length <= 1048576) (w : World) (g : IntS w l v fp) (f : Free fp w) :
 Calls Tryz.prog 43 #[v, .int .i64 k] w fun e w' => e = .returned (.int .i64 (k + l.length)) ∧ IntS w' (marks k l.length) v fp ∧ Chg fp w w' ∧ Free fp w' := by
 obtain ⟨a, n, cap, rfl, hn, hcap, hmax, hcm, r⟩ := g.opened
 have hns : n <= 1048576 := by rw [<- hn.out]; exact hs
 have G := Lib.hid g
 have F := Lib.hid f
 clear r g f hs
 go_enter Tryz.func43, Tryz.ntmps43
 go_wp2
 go_loopw [1, 5] (fun q i wr => ∃ j : Nat, j <= n ∧ i = .int .i64 j ∧ q = .int .i64 (k + j) ∧ IntS wr (mixed l k j) (.slice a n cap) fp ∧ Chg fp w wr ∧ Free fp wr) (fun _ i _ => n - (intOf i).toNat)
 case atStart => exact ⟨0, Nat.zero_le _, rfl, by simp, by rw [mixed_zero]; exact G.out, Chg.refl _ _, F.out⟩
 case round =>
  obtain ⟨j, hj, rfl, rfl, gi, hc, hf⟩ := hrel
  have GI := Lib.hid gi
  have HC := Lib.hid hc
  have HF := Lib.hid hf
  by_cases hlt : j < n
  · obtain ⟨a', n', cap', e, hn', _, _, _, r⟩ := gi.opened
    simp only [Value.slice.injEq] at e
    obtain ⟨rfl, rfl, rfl⟩ := e
    obtain ⟨i1, b1, o1, rfl, hb1, hbm, e1⟩ := r j hlt
    obtain ⟨x, e1⟩ : ∃ x, wr.cell? ⟨b1, o1 + j, none⟩ = some x := ⟨_, e1⟩
    have e2 := hf b1 hbm (o1 + j)
    have hin : j < l.length := by rw [hn.out]; exact hlt
    clear r gi hc hf hbm
    go_wp2
    go_roundw
    case rel =>
     obtain ⟨t1, t2, t3⟩ := GI.out.set rfl hlt (k + j)
     rw [mixed_set l k j hin] at t1
     exact ⟨j + 1, by omega, by go_num, by go_num, t1, HC.out.trans' t2, HF.out.setCell _ _⟩
    case measure => simp [intOf]; omega
  · clear gi hc hf
    obtain rfl : j = n := by omega
    go_wp2
    go_ret
    exact ⟨ret_int (by rw [hn.out]), by rw [<- mixed_all l k j hn.out]; exact GI.out, HC.out, HF.out⟩
theorem heldIntS_any (v : Value) (l : List Int) (fp : List Nat) (k : Int) (h0 : 0 <= k) (h1 : k <= 1152921504606846976) (hs : l.length <= 1048576) (w : World) (g : IntS w l v fp) :
 Calls Tryz.prog 47 #[v, .int .i64 k] w fun e w' => e = .returned (.int .i64 (heldR l k)) ∧ w = w' := by
 obtain ⟨a, n, cap, rfl, hn, hcap, hmax, hcm, r⟩ := g.opened
 have hns : n <= 1048576 := by rw [<- hn.out]; exact hs
 clear g hs
 go_enter Tryz.func47, Tryz.ntmps47
 go_wp2
 go_loop [1, 5] (fun q i => ∃ j : Nat, j <= n ∧ i = .int .i64 j ∧ q = .int .i64 (k + j) ∧ l.take j = marks k j) (fun _ i => n - (intOf i).toNat)
 case atStart => exact ⟨0, Nat.zero_le _, rfl, by simp, by simp [marks]⟩
 case round =>
  obtain ⟨j, hj, rfl, rfl, ht⟩ := hrel
  have HT := Lib.hid ht
  clear ht
  by_cases hlt : j < n
  · obtain ⟨i1, b1, o1, rfl, hb1, hbm, e1⟩ := r j hlt
    clear r hbm
    by_cases hq : l[j] = k + j
    · have hq' : (l[j] != k + j) = false := by simp [hq]
      have HQ := Lib.hid hq
      clear hq
      go_wp2
      go_round
      case rel => exact ⟨j + 1, by omega, by go_num, by go_num, by rw [List.take_succ_eq_append_getElem i1, HT.out, HQ.out]; simp [marks, List.range_succ]⟩
      case measure => simp [intOf]; omega
    · have hq' : (l[j] != k + j) = true := by simp [hq]
      have HQ := Lib.hid hq
      clear hq
      go_wp2
      go_ret
      refine ⟨ret_int ?_, rfl⟩
      unfold heldR
      rw [if_neg]
      intro e
      refine HQ.out ?_
      have h2 := marks_at k l.length j i1
      rw [<- h2]
      congr 1
  · clear r
    obtain rfl : j = n := by omega
    go_wp2
    go_ret
    refine ⟨ret_int ?_, rfl⟩
    unfold heldR
    rw [if_pos (by rw [hn.out, <- HT.out, List.take_of_length_le (by rw [hn.out]; exact Nat.le_refl _)]), hn.out]
end Go.Proofs.YtaeiddoccfaheaaGreat
