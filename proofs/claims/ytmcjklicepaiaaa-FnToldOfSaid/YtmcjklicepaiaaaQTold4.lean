/-
  What one was told: the program's ToldOf.
-/
import Derived.Test.YtmcjklicepaiaaaQTold3
namespace Go.Proofs.Ytmcjklicepaiaaa
set_option linter.unusedVariables false
set_option linter.unusedSimpArgs false
open Go.RowKit Go.ChangeShapes Go.WideShapes

def toldT (L : List (Tr Job 5)) (who : Int) : List (Tr Job 5) := L.filter fun p => p.1.who == who
theorem toldT_yes {L : List (Tr Job 5)} {who : Int} {k : Nat} (h : k < L.length) (e : L[k].1.who = who) : toldT (L.take (k + 1)) who = toldT (L.take k) who ++ [L[k]] := by
  unfold toldT
  rw [List.take_succ_eq_append_getElem h, List.filter_append]
  simp [e]
theorem toldT_no {L : List (Tr Job 5)} {who : Int} {k : Nat} (h : k < L.length) (e : ¬ L[k].1.who = who) : toldT (L.take (k + 1)) who = toldT (L.take k) who := by
  unfold toldT
  rw [List.take_succ_eq_append_getElem h, List.filter_append]
  simp [e]
theorem toldT_len (L : List (Tr Job 5)) (who : Int) : (toldT L who).length ≤ L.length := List.length_filter_le _ _
theorem toldT_map (L : List (Tr Job 5)) (who : Int) : (toldT L who).map (·.1) = toldOf (L.map (·.1)) who := by
  unfold toldT toldOf
  rw [List.filter_map]
  rfl
theorem toldT_mem {L : List (Tr Job 5)} {who : Int} {p : Tr Job 5} (h : p ∈ toldT L who) : p ∈ L := (List.mem_filter.1 h).1

set_option maxRecDepth 100000 in
set_option maxHeartbeats 3200000 in
theorem iToldOf_any (v : Value) (l : List Job) (fp : List Nat) (who : Int) (hs : sm_jobs l) (w : World) (g : SlR 5 jobR w l v fp) :
    Calls Try.prog 32 #[v, .int .i64 who] w fun e w' => ∃ v' fp', e = .returned v' ∧ SlR 5 jobR w' (toldOf l who) v' fp' ∧ New fp' w w' ∧ Below w.heap.size w w' := by
  obtain ⟨L, fq, hL, hF, hE, _⟩ := SlR.tr jobR_fits g
  obtain ⟨a, n, cap, rfl, hn, hcap, hmax, hcm, r⟩ := hF.openF
  have hll : L.length = l.length := by rw [← hL]; simp
  have hns : n ≤ 1048576 := by rw [← hn.out, hll]; exact hs.1
  have HD : Hid (∀ p, p ∈ L → p.1.rsp.data.length ≤ 1048576) := Lib.hid (fun p hp => by
    have hm : p.1 ∈ l := by rw [← hL]; exact List.mem_map.2 ⟨p, hp, rfl⟩
    obtain ⟨i, hi, e⟩ := List.mem_iff_getElem.1 hm
    rw [← e]
    exact hs.2 i hi)
  have HE : Hid (∀ p, p ∈ L → jobR w p.1 p.2.1.1 p.2.2) := Lib.hid (fun p hp => (hE p hp).1)
  have HM : Hid ((toldT L who).map (·.1) = toldOf l who) := Lib.hid (by rw [toldT_map, hL])
  clear g hs hF hE hll hL
  obtain ⟨i0, hi, hz0, hz1, hz2⟩ := info_parts info_jobs
  go_enter Try.func32, Try.ntmps32
  go_wp2_with fail
  go_loopw [5, 10] (fun v i wr => ∃ k : Nat, k ≤ n ∧ i = .int .i64 k ∧ OwnR 5 trC 64 w.heap.size wr v (toldT (L.take k) who) ∧ Below w.heap.size w wr) (fun _ i _ => n - (intOf i).toNat)
  case atStart => exact ⟨0, Nat.zero_le _, rfl, OwnR.nil _ _, Below.refl _ _⟩
  case round =>
    obtain ⟨k, hk, rfl, hown, hbel⟩ := hrel
    have hml : (toldT (L.take k) who).length ≤ 1048576 := by
      have := toldT_len (L.take k) who
      have := List.length_take_le k L
      omega
    have HO := Lib.hid hown
    have HB := Lib.hid hbel
    clear hown
    by_cases hlt : k < n
    · obtain ⟨i1, b1, o1, rfl, hb1, _, e1⟩ := r k hlt
      obtain ⟨da, dn, dc, hcs, _⟩ := jobR_els (HE.out L[k] (List.getElem_mem i1))
      have hcs' : trC L[k] = [.int .i64 L[k].1.who, .int .i64 L[k].1.n, .int .i64 L[k].1.rsp.id, .int .i64 L[k].1.rsp.code, .slice da dn dc] := hcs
      have c0 := (hbel.cell (p := ⟨b1, o1 + k * 5 + 0, none⟩) hb1).trans (e1 0 (by rw [hcs']; simp))
      have c1 := (hbel.cell (p := ⟨b1, o1 + k * 5 + 1, none⟩) hb1).trans (e1 1 (by rw [hcs']; simp))
      have c2 := (hbel.cell (p := ⟨b1, o1 + k * 5 + 2, none⟩) hb1).trans (e1 2 (by rw [hcs']; simp))
      have c3 := (hbel.cell (p := ⟨b1, o1 + k * 5 + 3, none⟩) hb1).trans (e1 3 (by rw [hcs']; simp))
      have c4 := (hbel.cell (p := ⟨b1, o1 + k * 5 + 4, none⟩) hb1).trans (e1 4 (by rw [hcs']; simp))
      simp only [hcs', Nat.add_zero, List.getElem_cons_zero, List.getElem_cons_succ] at c0 c1 c2 c3 c4
      have HCS := Lib.hid hcs'
      have HBa := Lib.hid (HB.out.alloc HB.out.size (.cells #[.int .i64 L[k].1.who, .int .i64 L[k].1.n, .int .i64 L[k].1.rsp.id, .int .i64 L[k].1.rsp.code, .slice da dn dc] 64))
      have HOa := Lib.hid (HO.out.below (below_alloc wr (.cells #[.int .i64 L[k].1.who, .int .i64 L[k].1.n, .int .i64 L[k].1.rsp.id, .int .i64 L[k].1.rsp.code, .slice da dn dc] 64)))
      clear e1 hbel hcs hcs'
      by_cases hq : L[k].1.who = who
      · have hq' : (L[k].1.who == who) = true := by simpa using hq
        have HQ := Lib.hid hq
        clear hq
        go_wp2_with (at_builtin; refine wpList_pushR (m := 1) (c := trC) (K := 5) (l := toldT (L.take k) who) (news := [L[k]]) rfl _ _ 56 64 i0 (.agg #[.int .i64 0, .int .i64 0, .int .i64 0, .int .i64 0, .slice none 0 0]) 56 _ trC_len rfl Try.underlying56 hi hz0 hz1 hz2 rfl (by decide) (by decide) rfl (by simp [Act.eval]) HOa.out (by rw [List.flatMap_cons, List.flatMap_nil, List.append_nil, HCS.out]) rfl (by rw [List.flatMap_cons, List.flatMap_nil, List.append_nil, HCS.out]; simp [Value.oneCell']) (by omega) (by omega) HBa.out.size ?_; intro v' w1 ho hb; have HO2 := Lib.hid ho; have HB2 := Lib.hid (HBa.out.trans hb); clear ho hb)
        go_roundw
        case rel => exact ⟨k + 1, by omega, by go_num, by rw [toldT_yes i1 HQ.out]; exact HO2.out, HB2.out⟩
        case measure => simp [intOf]; omega
      · have hq' : (L[k].1.who == who) = false := by simpa using hq
        have HQ := Lib.hid hq
        clear hq
        go_wp2
        go_roundw
        case rel => exact ⟨k + 1, by omega, by go_num, by rw [toldT_no i1 HQ.out]; exact HOa.out, HBa.out⟩
        case measure => simp [intOf]; omega
    · obtain rfl : k = n := by omega
      have hall : L.take k = L := List.take_of_length_le (by rw [hn.out]; exact Nat.le_refl _)
      have ho := HO.out
      rw [hall] at ho hml
      obtain ⟨fp2, g1, _⟩ := ho.reads trC_len
      have HG1 := Lib.hid g1
      clear r hbel ho hall g1
      go_wp2_with fail
      refine (copyJobs_any _ (toldT L who) fp2 hml (fun p hp => HD.out p (toldT_mem hp)) _ HG1.out (fun p hp => jobR_fits.same (HE.out p (toldT_mem hp)) (Same.of_below HB.out (jobR_fits.lt (HE.out p (toldT_mem hp)))) HB.out.size)).mono ?_
      rw [HM.out]
      rintro e w2 ⟨v', fp', rfl, g2, n2, b2⟩
      have G2 := Lib.hid g2
      have N2 : Hid (New fp' w w2) := Lib.hid ⟨fun b hb => Nat.le_trans HB.out.size (n2.lo b hb), n2.once, n2.free⟩
      have B2 := Lib.hid (HB.out.trans (b2.mono HB.out.size))
      clear g2 n2 b2
      go_wp2
      go_ret
      exact ⟨_, fp', rfl, G2.out, N2.out, B2.out⟩

end Go.Proofs.Ytmcjklicepaiaaa
