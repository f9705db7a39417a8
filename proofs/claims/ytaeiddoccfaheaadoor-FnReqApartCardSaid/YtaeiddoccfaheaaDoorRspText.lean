/-
  The text of what comes of something: RspText (both).
-/
import Derived.Test.YtaeiddoccfaheaaDoorText
import Derived.Test.YtaeiddoccfaheaaDoorRsp
import Derived.Test.YtaeiddoccfaheaaDoorFacts2
import Derived.Test.YtaeiddoccfaheaaDoorRegion3
import Derived.Deep.DeepCutAuto
namespace Go.Proofs.YtaeiddoccfaheaaDoor
set_option linter.unusedVariables false
set_option linter.unusedSimpArgs false
open Go.RowKit Go.ChangeShapes

/-- the word of what comes of something -/
def rspWord (c : Int) : List UInt8 := if c = 1 then [111, 107, 97, 121] else if c = 2 then [104, 101, 108, 100] else if c = 3 then [100, 101, 110, 121] else [110, 111, 110, 101]
def rspText (x : Rsp) : List UInt8 := if rspOk x = true then rspWord x.code ++ x.data.flatMap tk else []
theorem rspWord_len (c : Int) : (rspWord c).length = 4 := by
  unfold rspWord
  split
  · rfl
  · split
    · rfl
    · split <;> rfl
theorem rspOk_facts {x : Rsp} (h : rspOk x = true) : 1 ≤ x.code ∧ x.code ≤ 4 ∧ x.data.length ≤ 4 ∧ ∀ n, n ∈ x.data → 0 ≤ n ∧ n ≤ 65535 := by
  unfold rspOk at h
  simp only [Bool.and_eq_true, inB_true, decide_eq_true_eq] at h
  refine ⟨h.2.1.1, h.2.1.2, h.2.2.1, fun n hn => ?_⟩
  have := h.2.2.2
  unfold allIn at this
  rw [List.all_eq_true] at this
  have h3 := this n hn
  simpa [inB_true] using h3

set_option maxRecDepth 100000 in
set_option maxHeartbeats 3200000 in
theorem sRspText_any (x : Rsp) (v : Value) (fp : List Nat) (w : World) (g : IntS w x.data v fp) :
    Calls Tryd.prog 8 #[.agg #[.int .i64 x.id, .int .i64 x.code, v]] w fun e w' => e = .returned (.string ⟨(rspText x).toArray⟩) ∧ Below w.heap.size w w' := by
  obtain ⟨da, dn, dc, rfl, hn, _⟩ := g.opened
  obtain ⟨w0, hw0⟩ : ∃ w0, w0 = w.alloc (.cells #[.int .i64 x.id, .int .i64 x.code, .slice da dn dc] 27) := ⟨_, rfl⟩
  have hb0 : Below w.heap.size w w0 := by rw [hw0]; exact below_alloc w _
  have x0 : w0.cell? ⟨w.heap.size, 0, none⟩ = some (.int .i64 x.id) := by rw [hw0]; exact alloc1_new _ _ _ 0 rfl
  have x1 : w0.cell? ⟨w.heap.size, 1, none⟩ = some (.int .i64 x.code) := by rw [hw0]; exact alloc1_new _ _ _ 1 rfl
  have x2 : w0.cell? ⟨w.heap.size, 2, none⟩ = some (.slice da dn dc) := by rw [hw0]; exact alloc1_new _ _ _ 2 rfl
  have G := Lib.hid (SlR.below intR_fits g hb0)
  have B := Lib.hid hb0
  have X1 := Lib.hid x1
  have X2 := Lib.hid x2
  clear g hb0
  go_enter Tryd.func8, Tryd.ntmps8
  go_upto_region 1 with fail
  rw [← hw0]
  clear hw0
  obtain ⟨bx, hbx⟩ : ∃ z, z = w.heap.size := ⟨_, rfl⟩
  rw [← hbx] at x0 x1 x2 X1 X2
  rw [← hbx]
  have HBX := Lib.hid hbx
  clear hbx
  go_wp2_with fail
  refine (sRspOk_any x _ fp _ G.out).mono ?_
  cases q : rspOk x
  · have Q : Hid (rspText x = []) := Lib.hid (by unfold rspText; rw [q]; rfl)
    clear q
    rintro e w2 ⟨rfl, b2⟩
    have B2 := Lib.hid (B.out.trans (b2.mono B.out.size))
    clear b2 x0 x1 x2
    go_wp2
    go_ret
    exact ⟨by rw [Q.out]; rfl, B2.out⟩
  · obtain ⟨hc1, hc4, hd4, hdn⟩ := rspOk_facts q
    have Q : Hid (rspText x = rspWord x.code ++ x.data.flatMap tk) := Lib.hid (by unfold rspText; rw [q]; rfl)
    have HDN := Lib.hid hdn
    have hdn4 : dn ≤ 4 := by have := hn.out; omega
    clear q hdn
    rintro e w2 ⟨rfl, b2⟩
    have B2 := Lib.hid (B.out.trans (b2.mono B.out.size))
    have G2 := Lib.hid (SlR.below intR_fits G.out b2)
    have y1 := keep_cell b2 X1.out
    have Y2 := Lib.hid (keep_cell b2 X2.out)
    clear b2 x0 x1 x2 G B X1 X2
    go_upto_region 3 with fail
    go_cut [3] (fun t wc => ∃ s : ByteArray, t = .string s ∧ s = ⟨(rspWord x.code).toArray⟩ ∧ Below w2.heap.size w2 wc)
    case first =>
      have hc : x.code = 1 ∨ x.code = 2 ∨ x.code = 3 ∨ x.code = 4 := by omega
      obtain ⟨c, hcc⟩ : ∃ z, z = x.code := ⟨_, rfl⟩
      rw [← hcc] at hc y1
      have HCC := Lib.hid hcc
      clear hcc
      have hbo := block_of_cell y1
      rcases hc with rfl | rfl | rfl | rfl
      all_goals
        go_wp2_with fail
        go_meet
        case rel => exact ⟨_, rfl, by rw [← HCC.out]; rfl, below_alloc _ _⟩
    case rest =>
      obtain ⟨s0, rfl, hs0, b3⟩ := hcut
      have HS0 := Lib.hid hs0
      have B3 := Lib.hid b3
      have hz0 : s0.size = 4 := by rw [hs0]; exact rspWord_len _
      clear hs0 b3 y1
      go_wp2_with fail
      go_loopw [3, 4] (fun t i wr => ∃ (k : Nat) (s : ByteArray), k ≤ dn ∧ i = .int .i64 (k : Int) ∧ t = .string s ∧ s = ⟨(rspWord x.code ++ (x.data.take k).flatMap tk).toArray⟩ ∧ Below w2.heap.size w2 wr) (fun _ i _ => dn - (intOf i).toNat)
      case atStart => exact ⟨0, s0, Nat.zero_le _, rfl, rfl, by rw [HS0.out, List.take_zero, List.flatMap_nil, List.append_nil], B3.out⟩
      case round =>
        obtain ⟨k, s, hk, rfl, rfl, hs, hb⟩ := hrel
        have hsz : s.size ≤ 100 := by
          rw [hs]
          show (rspWord x.code ++ (x.data.take k).flatMap tk).length ≤ 100
          have h1 := tks_len (x.data.take k) (fun q hq => by have := (HDN.out q (List.mem_of_mem_take hq)).2; omega)
          have h2 : (x.data.take k).length ≤ 4 := by rw [List.length_take]; omega
          rw [List.length_append, rspWord_len]
          omega
        have HS := Lib.hid hs
        have HB := Lib.hid hb
        have y2 := keep_cell hb Y2.out
        clear hs hb
        by_cases hlt : k < dn
        · have hlti : (k : Int) < (dn : Int) := by omega
          obtain ⟨_, _, _, e, _, _, _, _, r⟩ := G2.out.opened
          cases e
          obtain ⟨i1, bb, bo, f1, cs1, rfl, hbb, _, _, hR1, e1⟩ := r k hlt
          obtain ⟨rfl, rfl⟩ := hR1
          have c1 := (HB.out.cell (p := ⟨bb, bo + k * 1 + 0, none⟩) hbb).trans (e1 0 (by simp))
          simp only [Nat.mul_one, Nat.add_zero, List.getElem_cons_zero] at c1
          obtain ⟨z, hz⟩ : ∃ z, z = x.data[k] := ⟨_, rfl⟩
          rw [← hz] at c1
          have hz01 : 0 ≤ z ∧ z ≤ 65535 := by rw [hz]; exact HDN.out _ (List.getElem_mem i1)
          obtain ⟨m, rfl⟩ := Int.eq_ofNat_of_zero_le hz01.1
          have HZk := Lib.hid hz
          have IK := Lib.hid i1
          clear e1 hz r
          have hq1 : ¬ (s.size + 1 > 9223372036854775807) := by omega
          go_wp2_with fail
          refine (sPlain_any m (by omega) _).mono ?_
          rintro e w4 ⟨rfl, b4⟩
          have B4 := Lib.hid (HB.out.trans (b4.mono HB.out.size))
          obtain ⟨t, ht⟩ : ∃ t : ByteArray, t = ⟨(Lib.decDigits m).toArray⟩ := ⟨_, rfl⟩
          rw [← ht]
          have hts : t.size ≤ 20 := by rw [ht]; exact digits_len m (by omega)
          have HT := Lib.hid ht
          clear b4 ht HB c1 y2
          have hq2 : ¬ (s.size + 1 + t.size > 9223372036854775807) := by omega
          go_wp2
          go_roundw
          case rel =>
            refine ⟨k + 1, _, by omega, by go_num, rfl, ?_, B4.out⟩
            rw [HS.out, HT.out, tks_take IK.out, ← HZk.out, show (⟨#[32]⟩ : ByteArray) = ⟨([32] : List UInt8).toArray⟩ from rfl, ByteArray.mk_append_mk, ByteArray.mk_append_mk]
            simp [tk]
          case measure => simp [intOf]; omega
        · have hnlt : ¬ (k : Int) < (dn : Int) := by omega
          have hkn : k = x.data.length := by have := hn.out; omega
          go_wp2
          go_ret
          exact ⟨by rw [Q.out, HS.out, show x.data.take k = x.data from by rw [hkn, List.take_length]]; rfl, B2.out.trans (HB.out.mono B2.out.size)⟩

/-- a variable that holds words -/
def Words (g : Nat) (ls : List (List UInt8)) (w : World) : Prop := ∃ b o c, w.cell? ⟨g, 0, none⟩ = some (.slice (some ⟨b, o, none⟩) ls.length c) ∧ ∀ j (h : j < ls.length), w.cell? ⟨b, o + j, none⟩ = some (.string ⟨ls[j].toArray⟩)
theorem Words.below {g : Nat} {ls : List (List UInt8)} {w w' : World} (h : Words g ls w) (hb : Below w.heap.size w w') : Words g ls w' := by
  obtain ⟨b, o, c, h0, h1⟩ := h
  exact ⟨b, o, c, keep_cell hb h0, fun j hj => keep_cell hb (h1 j hj)⟩
def rspWords : List (List UInt8) := [[], [111, 107, 97, 121], [104, 101, 108, 100], [100, 101, 110, 121], [110, 111, 110, 101]]
theorem rspWords_at {k : Nat} (h1 : 1 ≤ k) (h2 : k < rspWords.length) : rspWords[k] = rspWord (k : Int) := by
  have h3 : k = 1 ∨ k = 2 ∨ k = 3 ∨ k = 4 := by have : rspWords.length = 5 := rfl; omega
  rcases h3 with rfl | rfl | rfl | rfl <;> rfl

set_option maxRecDepth 100000 in
set_option maxHeartbeats 3200000 in
theorem iRspText_any (x : Rsp) (v : Value) (fp : List Nat) (w : World) (g : IntS w x.data v fp) (hp : Pow w) (hw : Words 0 rspWords w) :
    Calls Tryd.prog 10 #[.agg #[.int .i64 x.id, .int .i64 x.code, v]] w fun e w' => e = .returned (.string ⟨(rspText x).toArray⟩) ∧ Below w.heap.size w w' := by
  obtain ⟨da, dn, dc, rfl, hn, _⟩ := g.opened
  obtain ⟨w0, hw0⟩ : ∃ w0, w0 = w.alloc (.cells #[.int .i64 x.id, .int .i64 x.code, .slice da dn dc] 27) := ⟨_, rfl⟩
  have hb0 : Below w.heap.size w w0 := by rw [hw0]; exact below_alloc w _
  have x0 : w0.cell? ⟨w.heap.size, 0, none⟩ = some (.int .i64 x.id) := by rw [hw0]; exact alloc1_new _ _ _ 0 rfl
  have x1 : w0.cell? ⟨w.heap.size, 1, none⟩ = some (.int .i64 x.code) := by rw [hw0]; exact alloc1_new _ _ _ 1 rfl
  have x2 : w0.cell? ⟨w.heap.size, 2, none⟩ = some (.slice da dn dc) := by rw [hw0]; exact alloc1_new _ _ _ 2 rfl
  have G := Lib.hid (SlR.below intR_fits g hb0)
  have B := Lib.hid hb0
  have X1 := Lib.hid x1
  have X2 := Lib.hid x2
  have HP := Lib.hid (hp.below hb0)
  have HW := Lib.hid (hw.below hb0)
  clear g hb0 hp hw
  go_enter Tryd.func10, Tryd.ntmps10
  go_upto_region 1 with fail
  rw [← hw0]
  clear hw0
  obtain ⟨bx, hbx⟩ : ∃ z, z = w.heap.size := ⟨_, rfl⟩
  rw [← hbx] at x0 x1 x2 X1 X2
  rw [← hbx]
  have HBX := Lib.hid hbx
  clear hbx
  go_wp2_with fail
  refine (iRspOk_any x _ fp _ G.out).mono ?_
  cases q : rspOk x
  · have Q : Hid (rspText x = []) := Lib.hid (by unfold rspText; rw [q]; rfl)
    clear q
    rintro e w2 ⟨rfl, b2⟩
    have B2 := Lib.hid (B.out.trans (b2.mono B.out.size))
    clear b2 x0 x1 x2
    go_wp2
    go_ret
    exact ⟨by rw [Q.out]; rfl, B2.out⟩
  · obtain ⟨hc1, hc4, hd4, hdn⟩ := rspOk_facts q
    have Q : Hid (rspText x = rspWord x.code ++ x.data.flatMap tk) := Lib.hid (by unfold rspText; rw [q]; rfl)
    have HDN := Lib.hid hdn
    clear q hdn
    rintro e w2 ⟨rfl, b2⟩
    obtain ⟨k, hk⟩ := Int.eq_ofNat_of_zero_le (show 0 ≤ x.code by omega)
    have hkl : k < rspWords.length := by show k < 5; omega
    have hk1 : 1 ≤ k := by omega
    have B2 := Lib.hid (B.out.trans (b2.mono B.out.size))
    have G2 := Lib.hid (SlR.below intR_fits G.out b2)
    have y1 := keep_cell b2 X1.out
    have y2 := keep_cell b2 X2.out
    have HP2 := Lib.hid (HP.out.below b2)
    obtain ⟨wb, wo, wc, wg, wcs⟩ := HW.out.below b2
    have wk := wcs k hkl
    rw [rspWords_at hk1 hkl, ← hk] at wk
    obtain ⟨s0, hs0⟩ : ∃ s : ByteArray, s = ⟨(rspWord x.code).toArray⟩ := ⟨_, rfl⟩
    rw [← hs0] at wk
    have HS0 := Lib.hid hs0
    rw [hk] at y1
    replace wg : w2.cell? ⟨0, 0, none⟩ = some (.slice (some ⟨wb, wo, none⟩) 5 wc) := wg
    have HK := Lib.hid hk
    have hk5 : k < 5 := hkl
    have hk5i : (k : Int) < 5 := by omega
    clear b2 x0 x1 x2 G B X1 X2 HP HW wcs hs0 hk hkl
    go_upto_region 3 with fail
    have hst : ∀ F, F ∈ [FEq (.slice (some ⟨wb, wo, none⟩) 5 wc), FEq (.pointer (some ⟨bx, 1, none⟩)), FEq (.int .i64 (k : Int)), FEq (.pointer (some ⟨wb, wo + k, none⟩)), FEq (.string s0), FEq (.pointer (some ⟨bx, 2, none⟩)), FEq (.slice da dn dc), FEq (.string ⟨(rspWord x.code ++ x.data.flatMap tk).toArray⟩), FEq (.string ⟨(rspWord x.code ++ x.data.flatMap tk).toArray⟩)] → Stable [] F := by
      simp only [List.forall_mem_cons]
      exact ⟨stEq _ _, stEq _ _, stEq _ _, stEq _ _, stEq _ _, stEq _ _, stEq _ _, stEq _ _, stEq _ _, fun _ h => by simp at h⟩
    refine wp_region_tail (by kernel_rfl) (fun i => ([[], [], [1], [0, 1, 2], [0, 1, 2, 3], [], [5], [0, 1, 2, 3, 4, 5, 6], [0, 1, 2, 3, 4, 5, 6, 7]] : List (List Nat)).getD i []) (facts [FEq (.slice (some ⟨wb, wo, none⟩) 5 wc), FEq (.pointer (some ⟨bx, 1, none⟩)), FEq (.int .i64 (k : Int)), FEq (.pointer (some ⟨wb, wo + k, none⟩)), FEq (.string s0), FEq (.pointer (some ⟨bx, 2, none⟩)), FEq (.slice da dn dc), FEq (.string ⟨(rspWord x.code ++ x.data.flatMap tk).toArray⟩), FEq (.string ⟨(rspWord x.code ++ x.data.flatMap tk).toArray⟩)]) (fun m w' => Below w2.heap.size w2 w') 14 9 9 [some 6, some 7, some 8, some 9, some 10, some 11, some 12, some 13, some 2] [] rfl rfl (by decide) rfl rfl (by kernel_rfl) (by kernel_rfl) [] (by kernel_rfl) (fun g b hm v w h => by simp at hm) ?h0 (all_lt (n := 9) ?hop) ?hend
    case h0 => exact (Below.refl _ _).drew
    case hop =>
      refine ⟨⟨⟨⟨⟨⟨⟨⟨⟨trivial, ?_⟩, ?_⟩, ?_⟩, ?_⟩, ?_⟩, ?_⟩, ?_⟩, ?_⟩, ?_⟩
      · refine Owes.mk _ rfl rfl (fun _ _ h => by cases h) fun u m w' hm hI hR => ⟨⟨#[undef, undef, undef, undef, undef, undef, undef, undef, undef, undef, undef, undef, undef, undef], []⟩, rfl, fun d hd => by cases hd; exact (by decide : 6 < 14), ?_⟩
        have k0 := keep_cell hI wg
        have k1 := keep_cell hI y1
        have k2 := keep_cell hI y2
        have k3 := keep_cell hI wk
        have HI := Lib.hid hI
        clear hI hst hR
        go_wp2
        exact ⟨rfl, _, rfl, rfl, HI.out, fun _ _ h => h⟩
      · refine Owes.mk _ rfl rfl (fun _ _ h => by cases h) fun u m w' hm hI hR => ⟨⟨#[undef, .pointer (some ⟨bx, 0, none⟩), undef, undef, undef, undef, undef, undef, undef, undef, undef, undef, undef, undef], []⟩, rfl, fun d hd => by cases hd; exact (by decide : 7 < 14), ?_⟩
        have k0 := keep_cell hI wg
        have k1 := keep_cell hI y1
        have k2 := keep_cell hI y2
        have k3 := keep_cell hI wk
        have HI := Lib.hid hI
        clear hI hst hR
        go_wp2
        exact ⟨rfl, _, rfl, rfl, HI.out, fun _ _ h => h⟩
      · refine Owes.mk _ rfl rfl (fun _ _ h => by cases h) fun u m w' hm hI hR => ⟨⟨#[undef, undef, undef, undef, undef, undef, undef, u 1, undef, undef, undef, undef, undef, undef], []⟩, rfl, fun d hd => by cases hd; exact (by decide : 8 < 14), ?_⟩
        have e1 : u 1 = _ := hR 1 (by decide)
        have k0 := keep_cell hI wg
        have k1 := keep_cell hI y1
        have k2 := keep_cell hI y2
        have k3 := keep_cell hI wk
        have HI := Lib.hid hI
        clear hI hst hR
        rw [e1]
        clear e1
        go_wp2
        exact ⟨rfl, _, rfl, rfl, HI.out, fun _ _ h => h⟩
      · refine Owes.mk _ rfl rfl (fun _ _ h => by cases h) fun u m w' hm hI hR => ⟨⟨#[undef, undef, undef, undef, undef, undef, u 0, undef, u 2, undef, undef, undef, undef, undef], []⟩, rfl, fun d hd => by cases hd; exact (by decide : 9 < 14), ?_⟩
        have e0 : u 0 = _ := hR 0 (by decide)
        have e2 : u 2 = _ := hR 2 (by decide)
        have k0 := keep_cell hI wg
        have k1 := keep_cell hI y1
        have k2 := keep_cell hI y2
        have k3 := keep_cell hI wk
        have HI := Lib.hid hI
        clear hI hst hR
        rw [e0, e2]
        clear e0 e2
        go_wp2
        exact ⟨rfl, _, rfl, rfl, HI.out, fun _ _ h => h⟩
      · refine Owes.mk _ rfl rfl (fun _ _ h => by cases h) fun u m w' hm hI hR => ⟨⟨#[undef, undef, undef, undef, undef, undef, undef, undef, undef, u 3, undef, undef, undef, undef], []⟩, rfl, fun d hd => by cases hd; exact (by decide : 10 < 14), ?_⟩
        have e3 : u 3 = _ := hR 3 (by decide)
        have k0 := keep_cell hI wg
        have k1 := keep_cell hI y1
        have k2 := keep_cell hI y2
        have k3 := keep_cell hI wk
        have HI := Lib.hid hI
        clear hI hst hR
        rw [e3]
        clear e3
        go_wp2
        exact ⟨rfl, _, rfl, rfl, HI.out, fun _ _ h => h⟩
      · refine Owes.mk _ rfl rfl (fun _ _ h => by cases h) fun u m w' hm hI hR => ⟨⟨#[undef, .pointer (some ⟨bx, 0, none⟩), undef, undef, undef, undef, undef, undef, undef, undef, undef, undef, undef, undef], []⟩, rfl, fun d hd => by cases hd; exact (by decide : 11 < 14), ?_⟩
        have k0 := keep_cell hI wg
        have k1 := keep_cell hI y1
        have k2 := keep_cell hI y2
        have k3 := keep_cell hI wk
        have HI := Lib.hid hI
        clear hI hst hR
        go_wp2
        exact ⟨rfl, _, rfl, rfl, HI.out, fun _ _ h => h⟩
      · refine Owes.mk _ rfl rfl (fun _ _ h => by cases h) fun u m w' hm hI hR => ⟨⟨#[undef, undef, undef, undef, undef, undef, undef, undef, undef, undef, undef, u 5, undef, undef], []⟩, rfl, fun d hd => by cases hd; exact (by decide : 12 < 14), ?_⟩
        have e5 : u 5 = _ := hR 5 (by decide)
        have k0 := keep_cell hI wg
        have k1 := keep_cell hI y1
        have k2 := keep_cell hI y2
        have k3 := keep_cell hI wk
        have HI := Lib.hid hI
        clear hI hst hR
        rw [e5]
        clear e5
        go_wp2
        exact ⟨rfl, _, rfl, rfl, HI.out, fun _ _ h => h⟩
      · refine Owes.mk _ rfl rfl (fun _ _ h => by cases h) fun u m w' hm hI hR => ⟨⟨#[undef, undef, undef, undef, undef, undef, undef, undef, undef, undef, u 4, undef, u 6, undef], []⟩, rfl, fun d hd => by cases hd; exact (by decide : 13 < 14), ?_⟩
        have e4 : u 4 = _ := hR 4 (by decide)
        have e6 : u 6 = _ := hR 6 (by decide)
        have k0 := keep_cell hI wg
        have k1 := keep_cell hI y1
        have k2 := keep_cell hI y2
        have k3 := keep_cell hI wk
        rw [e4, e6]
        clear e4 e6
        have HG := Lib.hid (SlR.below intR_fits G2.out hI)
        have HPw := Lib.hid (HP2.out.below hI)
        have HI := Lib.hid hI
        have HSt := Lib.hid hst
        clear hI hst hR
        go_wp2_with fail
        refine (join_any s0 (rspWord x.code) HS0.out (by rw [rspWord_len]; omega) _ x.data fp (by omega) (fun n hn => by have := HDN.out n hn; omega) _ HPw.out HG.out).mono ?_
        rintro e w5 ⟨rfl, b5⟩
        have HS := Lib.hid (facts_stable HSt.out (b5.chg []))
        have HI5 := Lib.hid (HI.out.trans (b5.mono HI.out.size))
        clear b5
        go_wp2
        exact ⟨rfl, _, rfl, rfl, HI5.out, HS.out⟩
      · refine Owes.mk _ rfl rfl (fun _ _ h => by cases h) fun u m w' hm hI hR => ⟨⟨#[undef, undef, undef, undef, undef, undef, undef, undef, undef, undef, undef, undef, undef, u 7], []⟩, rfl, fun d hd => by cases hd; exact (by decide : 2 < 14), ?_⟩
        have e7 : u 7 = _ := hR 7 (by decide)
        have k0 := keep_cell hI wg
        have k1 := keep_cell hI y1
        have k2 := keep_cell hI y2
        have k3 := keep_cell hI wk
        have HI := Lib.hid hI
        clear hI hst hR
        rw [e7]
        clear e7
        go_wp2
        exact ⟨rfl, _, rfl, rfl, HI.out, fun _ _ h => h⟩
    case hend =>
      intro u w' hI hR
      simp only [setAll, List.set_cons_zero, List.set_cons_succ]
      unfold wpList
      have e8 : u 8 = _ := hR 8 (by decide)
      rw [e8]
      have HBw := Lib.hid (B2.out.trans (hI.mono B2.out.size))
      clear hR hI hst e8
      go_wp2
      go_ret
      exact ⟨by rw [Q.out]; rfl, HBw.out⟩

end Go.Proofs.YtaeiddoccfaheaaDoor
