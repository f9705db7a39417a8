/-
  The text of what is asked: the program's ReqText.
-/
import Derived.Test.YtaeiddoccfaheaaDoorReqText
namespace Go.Proofs.YtaeiddoccfaheaaDoor
set_option linter.unusedVariables false
set_option linter.unusedSimpArgs false
open Go.RowKit Go.ChangeShapes

def reqWords : List (List UInt8) := [[], [114, 101, 97, 100], [119, 114, 105, 116, 101], [104, 111, 108, 100], [116, 114, 121]]
theorem reqWords_at {k : Nat} (h1 : 1 ≤ k) (h2 : k < reqWords.length) : reqWords[k] = reqWord (k : Int) := by
  have h3 : k = 1 ∨ k = 2 ∨ k = 3 ∨ k = 4 := by have : reqWords.length = 5 := rfl; omega
  rcases h3 with rfl | rfl | rfl | rfl <;> rfl
theorem lits (w : World) (A : Array Value) (l : List Int) (hA : A.toList = l.flatMap IntC) (n : Nat) (hn : l.length = n) (hm : n ≤ maxLen) : ∃ fp, SlR 1 intR (w.alloc (.cells A 3)) l (.slice (some ⟨w.heap.size, 0, none⟩) n n) fp := by
  obtain ⟨fp, h, _⟩ := intRow_reads (OwnR.lit (K := 1) (c := IntC) (e := 3) (base := w.heap.size) w A n l IntC_len hA hn (Nat.le_refl _) hm)
  exact ⟨fp, h⟩

set_option maxRecDepth 100000 in
set_option maxHeartbeats 12800000 in
theorem iReqText_any (x : Req) (v0 v1 : Value) (fp0 fp1 : List Nat) (w : World) (g0 : SlR 1 intR w x.data v0 fp0) (g1 : SlR 1 intR w x.lanes v1 fp1) (hp : Pow w) (hw : Words 1 reqWords w) :
    Calls Tryd.prog 15 #[.agg #[.int .i64 x.id, .int .i64 x.kind, .int .i64 x.addr, .int .i64 x.many, .bool x.wrap, v0, v1]] w fun e w' => e = .returned (.string ⟨(reqText x).toArray⟩) ∧ Below w.heap.size w w' := by
  obtain ⟨da, dn, dc, rfl, hn, _⟩ := g0.opened
  obtain ⟨la, ln, lc, rfl, hm, _⟩ := g1.opened
  obtain ⟨w0, hw0⟩ : ∃ w0, w0 = w.alloc (.cells #[.int .i64 x.id, .int .i64 x.kind, .int .i64 x.addr, .int .i64 x.many, .bool x.wrap, .slice da dn dc, .slice la ln lc] 35) := ⟨_, rfl⟩
  have hb0 : Below w.heap.size w w0 := by rw [hw0]; exact below_alloc w _
  have cs : ∀ j (hj : j < 7), w0.cell? ⟨w.heap.size, j, none⟩ = some ((#[.int .i64 x.id, .int .i64 x.kind, .int .i64 x.addr, .int .i64 x.many, .bool x.wrap, .slice da dn dc, .slice la ln lc] : Array Value)[j]'hj) := fun j hj => by rw [hw0]; exact alloc1_new _ _ _ j (by simp [show j < 7 from hj])
  have G0 := Lib.hid (SlR.below intR_fits g0 hb0)
  have G1 := Lib.hid (SlR.below intR_fits g1 hb0)
  have B := Lib.hid hb0
  have HP := Lib.hid (hp.below hb0)
  have HW := Lib.hid (hw.below hb0)
  go_enter Tryd.func15, Tryd.ntmps15
  go_upto_region 1 with fail
  rw [← hw0]
  obtain ⟨bx, hbx⟩ : ∃ z, z = w.heap.size := ⟨_, rfl⟩
  rw [← hbx] at cs
  rw [← hbx]
  have CS := Lib.hid cs
  have x0 := cs 0 (by decide)
  have x1 := cs 1 (by decide)
  have x2 := cs 2 (by decide)
  have x3 := cs 3 (by decide)
  have x4 := cs 4 (by decide)
  have x5 := cs 5 (by decide)
  have x6 := cs 6 (by decide)
  simp only [List.getElem_toArray, List.getElem_cons_zero, List.getElem_cons_succ] at x0 x1 x2 x3 x4 x5 x6
  clear hw0 g0 g1 hb0 cs hbx hp hw
  go_wp2_with fail
  refine (iReqOk_any x _ _ fp0 fp1 _ G0.out G1.out).mono ?_
  cases q : reqOk x
  · have Q : Hid (reqText x = []) := Lib.hid (by unfold reqText; rw [q]; rfl)
    clear q
    rintro e w2 ⟨rfl, b2⟩
    have B2 := Lib.hid (B.out.trans (b2.mono B.out.size))
    clear b2 x0 x1 x2 x3 x4 x5 x6
    go_wp2
    go_ret
    exact ⟨by rw [Q.out]; rfl, B2.out⟩
  · have RF := reqOk_facts q
    have HF := Lib.hid RF
    have Q : Hid (reqText x = reqHead x ++ rnd x.wrap ++ prs (x.data.zip x.lanes)) := Lib.hid (by unfold reqText; rw [q]; rfl)
    clear q
    rintro e w2 ⟨rfl, b2⟩
    have B2 := Lib.hid (B.out.trans (b2.mono B.out.size))
    have G02 := Lib.hid (SlR.below intR_fits G0.out b2)
    have G12 := Lib.hid (SlR.below intR_fits G1.out b2)
    have HP2 := Lib.hid (HP.out.below b2)
    have CS2 : Hid (∀ j (hj : j < 7), w2.cell? ⟨bx, j, none⟩ = some ((#[.int .i64 x.id, .int .i64 x.kind, .int .i64 x.addr, .int .i64 x.many, .bool x.wrap, .slice da dn dc, .slice la ln lc] : Array Value)[j]'hj)) := Lib.hid fun j hj => keep_cell b2 (CS.out j hj)
    replace x0 := keep_cell b2 x0
    replace x1 := keep_cell b2 x1
    replace x2 := keep_cell b2 x2
    replace x3 := keep_cell b2 x3
    obtain ⟨kq, hk⟩ := Int.eq_ofNat_of_zero_le (show 0 ≤ x.kind by have := RF.kind; omega)
    have hk1 : 1 ≤ kq := by have := RF.kind; omega
    have hk5 : kq < 5 := by have := RF.kind; omega
    have hk5i : (kq : Int) < 5 := by omega
    rw [hk] at x1
    obtain ⟨wb, wo, wcap, wg, wcs⟩ := HW.out.below b2
    have wk := wcs kq (by show kq < 5; omega)
    rw [reqWords_at hk1 (by show kq < 5; omega), ← hk] at wk
    obtain ⟨s0, hs0⟩ : ∃ s : ByteArray, s = ⟨(reqWord x.kind).toArray⟩ := ⟨_, rfl⟩
    rw [← hs0] at wk
    replace wg : w2.cell? ⟨1, 0, none⟩ = some (.slice (some ⟨wb, wo, none⟩) 5 wcap) := wg
    obtain ⟨T12, hT12⟩ : ∃ z, z = reqHead x := ⟨_, rfl⟩
    have HT12 : Hid (reqWord x.kind ++ [x.id, x.addr, x.many].flatMap tk = T12) := Lib.hid (by rw [hT12]; unfold reqHead; simp)
    have HT12' := Lib.hid hT12
    have HT12L : Hid (T12.length ≤ 80) := Lib.hid (by rw [hT12]; have := head_len RF; rw [List.length_append] at this; omega)
    have HS0 := Lib.hid hs0
    clear b2 x4 x5 x6 G0 G1 B CS RF HP HW hk wcs hs0 hT12
    go_upto_region 3 with fail
    have hst : ∀ F, F ∈ [FEq (.slice (some ⟨wb, wo, none⟩) 5 wcap), FEq (.pointer (some ⟨bx, 1, none⟩)), FEq (.int .i64 (kq : Int)), FEq (.pointer (some ⟨wb, wo + kq, none⟩)), FEq (.string s0), FEq (.pointer (some ⟨bx, 0, none⟩)), FEq (.int .i64 x.id), FEq (.pointer (some ⟨bx, 2, none⟩)), FEq (.int .i64 x.addr), FEq (.pointer (some ⟨bx, 3, none⟩)), FEq (.int .i64 x.many), FSlR 1 intR [x.id, x.addr, x.many], FStr T12 80, FStr T12 80] → Stable [] F := by
      simp only [List.forall_mem_cons]
      exact ⟨stEq _ _, stEq _ _, stEq _ _, stEq _ _, stEq _ _, stEq _ _, stEq _ _, stEq _ _, stEq _ _, stEq _ _, stEq _ _, stSlR intR_fits _, stStr _ _, stStr _ _, fun _ h => by simp at h⟩
    refine wp_region_tail (by kernel_rfl) (fun i => ([[], [], [1], [0, 1, 2], [0, 1, 2, 3], [], [5], [], [7], [], [9], [5, 6, 7, 8, 9, 10], [0, 1, 2, 3, 4, 5, 6, 7, 8, 9, 10, 11], [0, 1, 2, 3, 4, 5, 6, 7, 8, 9, 10, 11, 12]] : List (List Nat)).getD i []) (facts [FEq (.slice (some ⟨wb, wo, none⟩) 5 wcap), FEq (.pointer (some ⟨bx, 1, none⟩)), FEq (.int .i64 (kq : Int)), FEq (.pointer (some ⟨wb, wo + kq, none⟩)), FEq (.string s0), FEq (.pointer (some ⟨bx, 0, none⟩)), FEq (.int .i64 x.id), FEq (.pointer (some ⟨bx, 2, none⟩)), FEq (.int .i64 x.addr), FEq (.pointer (some ⟨bx, 3, none⟩)), FEq (.int .i64 x.many), FSlR 1 intR [x.id, x.addr, x.many], FStr T12 80, FStr T12 80]) (fun m w' => Below w2.heap.size w2 w') 46 14 14 [some 9, some 10, some 11, some 12, some 13, some 14, some 15, some 16, some 17, some 18, some 19, some 20, some 21, some 3] [] rfl rfl (by decide) rfl rfl (by kernel_rfl) (by kernel_rfl) [] (by kernel_rfl) (fun g b hm v w h => by simp at hm) ?h0 (all_lt (n := 14) ?hop) ?hend
    case h0 => exact (Below.refl _ _).drew
    case hop =>
      refine ⟨⟨⟨⟨⟨⟨⟨⟨⟨⟨⟨⟨⟨⟨trivial, ?_⟩, ?_⟩, ?_⟩, ?_⟩, ?_⟩, ?_⟩, ?_⟩, ?_⟩, ?_⟩, ?_⟩, ?_⟩, ?_⟩, ?_⟩, ?_⟩
      · refine Owes.mk _ rfl rfl (fun _ _ h => by cases h) fun u m w' hm hI hR => ⟨⟨#[undef, undef, undef, undef, undef, undef, undef, undef, undef, undef, undef, undef, undef, undef, undef, undef, undef, undef, undef, undef, undef, undef, undef, undef, undef, undef, undef, undef, undef, undef, undef, undef, undef, undef, undef, undef, undef, undef, undef, undef, undef, undef, undef, undef, undef, undef], []⟩, rfl, fun d hd => by cases hd; exact (by decide : 9 < 46), ?_⟩
        have k0 := keep_cell hI wg
        have k1 := keep_cell hI x0
        have k2 := keep_cell hI x1
        have k3 := keep_cell hI x2
        have k4 := keep_cell hI x3
        have k5 := keep_cell hI wk
        have HI := Lib.hid hI
        clear hI hst hR
        go_wp2
        exact ⟨rfl, _, rfl, rfl, HI.out, fun _ _ h => h⟩
      · refine Owes.mk _ rfl rfl (fun _ _ h => by cases h) fun u m w' hm hI hR => ⟨⟨#[undef, .pointer (some ⟨bx, 0, none⟩), undef, undef, undef, undef, undef, undef, undef, undef, undef, undef, undef, undef, undef, undef, undef, undef, undef, undef, undef, undef, undef, undef, undef, undef, undef, undef, undef, undef, undef, undef, undef, undef, undef, undef, undef, undef, undef, undef, undef, undef, undef, undef, undef, undef], []⟩, rfl, fun d hd => by cases hd; exact (by decide : 10 < 46), ?_⟩
        have k0 := keep_cell hI wg
        have k1 := keep_cell hI x0
        have k2 := keep_cell hI x1
        have k3 := keep_cell hI x2
        have k4 := keep_cell hI x3
        have k5 := keep_cell hI wk
        have HI := Lib.hid hI
        clear hI hst hR
        go_wp2
        exact ⟨rfl, _, rfl, rfl, HI.out, fun _ _ h => h⟩
      · refine Owes.mk _ rfl rfl (fun _ _ h => by cases h) fun u m w' hm hI hR => ⟨⟨#[undef, undef, undef, undef, undef, undef, undef, undef, undef, undef, u 1, undef, undef, undef, undef, undef, undef, undef, undef, undef, undef, undef, undef, undef, undef, undef, undef, undef, undef, undef, undef, undef, undef, undef, undef, undef, undef, undef, undef, undef, undef, undef, undef, undef, undef, undef], []⟩, rfl, fun d hd => by cases hd; exact (by decide : 11 < 46), ?_⟩
        have e1 : u 1 = _ := hR 1 (by decide)
        have k0 := keep_cell hI wg
        have k1 := keep_cell hI x0
        have k2 := keep_cell hI x1
        have k3 := keep_cell hI x2
        have k4 := keep_cell hI x3
        have k5 := keep_cell hI wk
        have HI := Lib.hid hI
        clear hI hst hR
        rw [e1]
        clear e1
        go_wp2
        exact ⟨rfl, _, rfl, rfl, HI.out, fun _ _ h => h⟩
      · refine Owes.mk _ rfl rfl (fun _ _ h => by cases h) fun u m w' hm hI hR => ⟨⟨#[undef, undef, undef, undef, undef, undef, undef, undef, undef, u 0, undef, u 2, undef, undef, undef, undef, undef, undef, undef, undef, undef, undef, undef, undef, undef, undef, undef, undef, undef, undef, undef, undef, undef, undef, undef, undef, undef, undef, undef, undef, undef, undef, undef, undef, undef, undef], []⟩, rfl, fun d hd => by cases hd; exact (by decide : 12 < 46), ?_⟩
        have e0 : u 0 = _ := hR 0 (by decide)
        have e2 : u 2 = _ := hR 2 (by decide)
        have k0 := keep_cell hI wg
        have k1 := keep_cell hI x0
        have k2 := keep_cell hI x1
        have k3 := keep_cell hI x2
        have k4 := keep_cell hI x3
        have k5 := keep_cell hI wk
        have HI := Lib.hid hI
        clear hI hst hR
        rw [e0, e2]
        clear e0 e2
        go_wp2
        exact ⟨rfl, _, rfl, rfl, HI.out, fun _ _ h => h⟩
      · refine Owes.mk _ rfl rfl (fun _ _ h => by cases h) fun u m w' hm hI hR => ⟨⟨#[undef, undef, undef, undef, undef, undef, undef, undef, undef, undef, undef, undef, u 3, undef, undef, undef, undef, undef, undef, undef, undef, undef, undef, undef, undef, undef, undef, undef, undef, undef, undef, undef, undef, undef, undef, undef, undef, undef, undef, undef, undef, undef, undef, undef, undef, undef], []⟩, rfl, fun d hd => by cases hd; exact (by decide : 13 < 46), ?_⟩
        have e3 : u 3 = _ := hR 3 (by decide)
        have k0 := keep_cell hI wg
        have k1 := keep_cell hI x0
        have k2 := keep_cell hI x1
        have k3 := keep_cell hI x2
        have k4 := keep_cell hI x3
        have k5 := keep_cell hI wk
        have HI := Lib.hid hI
        clear hI hst hR
        rw [e3]
        clear e3
        go_wp2
        exact ⟨rfl, _, rfl, rfl, HI.out, fun _ _ h => h⟩
      · refine Owes.mk _ rfl rfl (fun _ _ h => by cases h) fun u m w' hm hI hR => ⟨⟨#[undef, .pointer (some ⟨bx, 0, none⟩), undef, undef, undef, undef, undef, undef, undef, undef, undef, undef, undef, undef, undef, undef, undef, undef, undef, undef, undef, undef, undef, undef, undef, undef, undef, undef, undef, undef, undef, undef, undef, undef, undef, undef, undef, undef, undef, undef, undef, undef, undef, undef, undef, undef], []⟩, rfl, fun d hd => by cases hd; exact (by decide : 14 < 46), ?_⟩
        have k0 := keep_cell hI wg
        have k1 := keep_cell hI x0
        have k2 := keep_cell hI x1
        have k3 := keep_cell hI x2
        have k4 := keep_cell hI x3
        have k5 := keep_cell hI wk
        have HI := Lib.hid hI
        clear hI hst hR
        go_wp2
        exact ⟨rfl, _, rfl, rfl, HI.out, fun _ _ h => h⟩
      · refine Owes.mk _ rfl rfl (fun _ _ h => by cases h) fun u m w' hm hI hR => ⟨⟨#[undef, undef, undef, undef, undef, undef, undef, undef, undef, undef, undef, undef, undef, undef, u 5, undef, undef, undef, undef, undef, undef, undef, undef, undef, undef, undef, undef, undef, undef, undef, undef, undef, undef, undef, undef, undef, undef, undef, undef, undef, undef, undef, undef, undef, undef, undef], []⟩, rfl, fun d hd => by cases hd; exact (by decide : 15 < 46), ?_⟩
        have e5 : u 5 = _ := hR 5 (by decide)
        have k0 := keep_cell hI wg
        have k1 := keep_cell hI x0
        have k2 := keep_cell hI x1
        have k3 := keep_cell hI x2
        have k4 := keep_cell hI x3
        have k5 := keep_cell hI wk
        have HI := Lib.hid hI
        clear hI hst hR
        rw [e5]
        clear e5
        go_wp2
        exact ⟨rfl, _, rfl, rfl, HI.out, fun _ _ h => h⟩
      · refine Owes.mk _ rfl rfl (fun _ _ h => by cases h) fun u m w' hm hI hR => ⟨⟨#[undef, .pointer (some ⟨bx, 0, none⟩), undef, undef, undef, undef, undef, undef, undef, undef, undef, undef, undef, undef, undef, undef, undef, undef, undef, undef, undef, undef, undef, undef, undef, undef, undef, undef, undef, undef, undef, undef, undef, undef, undef, undef, undef, undef, undef, undef, undef, undef, undef, undef, undef, undef], []⟩, rfl, fun d hd => by cases hd; exact (by decide : 16 < 46), ?_⟩
        have k0 := keep_cell hI wg
        have k1 := keep_cell hI x0
        have k2 := keep_cell hI x1
        have k3 := keep_cell hI x2
        have k4 := keep_cell hI x3
        have k5 := keep_cell hI wk
        have HI := Lib.hid hI
        clear hI hst hR
        go_wp2
        exact ⟨rfl, _, rfl, rfl, HI.out, fun _ _ h => h⟩
      · refine Owes.mk _ rfl rfl (fun _ _ h => by cases h) fun u m w' hm hI hR => ⟨⟨#[undef, undef, undef, undef, undef, undef, undef, undef, undef, undef, undef, undef, undef, undef, undef, undef, u 7, undef, undef, undef, undef, undef, undef, undef, undef, undef, undef, undef, undef, undef, undef, undef, undef, undef, undef, undef, undef, undef, undef, undef, undef, undef, undef, undef, undef, undef], []⟩, rfl, fun d hd => by cases hd; exact (by decide : 17 < 46), ?_⟩
        have e7 : u 7 = _ := hR 7 (by decide)
        have k0 := keep_cell hI wg
        have k1 := keep_cell hI x0
        have k2 := keep_cell hI x1
        have k3 := keep_cell hI x2
        have k4 := keep_cell hI x3
        have k5 := keep_cell hI wk
        have HI := Lib.hid hI
        clear hI hst hR
        rw [e7]
        clear e7
        go_wp2
        exact ⟨rfl, _, rfl, rfl, HI.out, fun _ _ h => h⟩
      · refine Owes.mk _ rfl rfl (fun _ _ h => by cases h) fun u m w' hm hI hR => ⟨⟨#[undef, .pointer (some ⟨bx, 0, none⟩), undef, undef, undef, undef, undef, undef, undef, undef, undef, undef, undef, undef, undef, undef, undef, undef, undef, undef, undef, undef, undef, undef, undef, undef, undef, undef, undef, undef, undef, undef, undef, undef, undef, undef, undef, undef, undef, undef, undef, undef, undef, undef, undef, undef], []⟩, rfl, fun d hd => by cases hd; exact (by decide : 18 < 46), ?_⟩
        have k0 := keep_cell hI wg
        have k1 := keep_cell hI x0
        have k2 := keep_cell hI x1
        have k3 := keep_cell hI x2
        have k4 := keep_cell hI x3
        have k5 := keep_cell hI wk
        have HI := Lib.hid hI
        clear hI hst hR
        go_wp2
        exact ⟨rfl, _, rfl, rfl, HI.out, fun _ _ h => h⟩
      · refine Owes.mk _ rfl rfl (fun _ _ h => by cases h) fun u m w' hm hI hR => ⟨⟨#[undef, undef, undef, undef, undef, undef, undef, undef, undef, undef, undef, undef, undef, undef, undef, undef, undef, undef, u 9, undef, undef, undef, undef, undef, undef, undef, undef, undef, undef, undef, undef, undef, undef, undef, undef, undef, undef, undef, undef, undef, undef, undef, undef, undef, undef, undef], []⟩, rfl, fun d hd => by cases hd; exact (by decide : 19 < 46), ?_⟩
        have e9 : u 9 = _ := hR 9 (by decide)
        have k0 := keep_cell hI wg
        have k1 := keep_cell hI x0
        have k2 := keep_cell hI x1
        have k3 := keep_cell hI x2
        have k4 := keep_cell hI x3
        have k5 := keep_cell hI wk
        have HI := Lib.hid hI
        clear hI hst hR
        rw [e9]
        clear e9
        go_wp2
        exact ⟨rfl, _, rfl, rfl, HI.out, fun _ _ h => h⟩
      · refine Owes.mk _ rfl rfl (fun _ _ h => by cases h) fun u m w' hm hI hR => ⟨⟨#[undef, undef, undef, undef, undef, undef, undef, undef, undef, undef, undef, undef, undef, undef, undef, u 6, undef, u 8, undef, u 10, undef, undef, undef, undef, undef, undef, undef, undef, undef, undef, undef, undef, undef, undef, undef, undef, undef, undef, undef, undef, undef, undef, undef, undef, undef, undef], []⟩, rfl, fun d hd => by cases hd; exact (by decide : 20 < 46), ?_⟩
        have e6 : u 6 = _ := hR 6 (by decide)
        have e8 : u 8 = _ := hR 8 (by decide)
        have e10 : u 10 = _ := hR 10 (by decide)
        have k0 := keep_cell hI wg
        have k1 := keep_cell hI x0
        have k2 := keep_cell hI x1
        have k3 := keep_cell hI x2
        have k4 := keep_cell hI x3
        have k5 := keep_cell hI wk
        rw [e6, e8, e10]
        clear e6 e8 e10
        have HI := Lib.hid hI
        have HSt := Lib.hid hst
        clear hI hst hR
        go_wp2
        have ba := below_alloc w' (.cells #[.int .i64 x.id, .int .i64 x.addr, .int .i64 x.many] 3)
        exact ⟨rfl, _, rfl, lits w' #[.int .i64 x.id, .int .i64 x.addr, .int .i64 x.many] [x.id, x.addr, x.many] rfl 3 rfl (by decide), HI.out.trans (ba.mono HI.out.size), facts_stable HSt.out (ba.chg [])⟩
      · refine Owes.mk _ rfl rfl (fun _ _ h => by cases h) fun u m w' hm hI hR => ⟨⟨#[undef, undef, undef, undef, undef, undef, undef, undef, undef, undef, undef, undef, undef, u 4, undef, undef, undef, undef, undef, undef, u 11, undef, undef, undef, undef, undef, undef, undef, undef, undef, undef, undef, undef, undef, undef, undef, undef, undef, undef, undef, undef, undef, undef, undef, undef, undef], []⟩, rfl, fun d hd => by cases hd; exact (by decide : 21 < 46), ?_⟩
        have e4 : u 4 = _ := hR 4 (by decide)
        have k0 := keep_cell hI wg
        have k1 := keep_cell hI x0
        have k2 := keep_cell hI x1
        have k3 := keep_cell hI x2
        have k4 := keep_cell hI x3
        have k5 := keep_cell hI wk
        rw [e4]
        clear e4
        obtain ⟨fq_, hq_⟩ := hR 11 (by decide)
        have HQ := Lib.hid hq_
        have HPw := Lib.hid (HP2.out.below hI)
        have HI := Lib.hid hI
        have HSt := Lib.hid hst
        clear hI hst hR hq_
        go_wp2_with fail
        refine (join_any s0 (reqWord x.kind) HS0.out (by have := reqWord_len x.kind; omega) _ [x.id, x.addr, x.many] fq_ (by simp) (fun n hn => by have h1 := HF.out.id; have h2 := HF.out.addr; have h3 := HF.out.many; simp at hn; rcases hn with rfl | rfl | rfl <;> omega) _ HPw.out HQ.out).mono ?_
        rw [HT12.out]
        rintro e w5 ⟨rfl, b5⟩
        have HSs := Lib.hid (facts_stable HSt.out (b5.chg []))
        have HI5 := Lib.hid (HI.out.trans (b5.mono HI.out.size))
        clear b5
        go_wp2
        exact ⟨rfl, _, rfl, ⟨_, rfl, rfl, HT12L.out⟩, HI5.out, HSs.out⟩
      · refine Owes.mk _ rfl rfl (fun _ _ h => by cases h) fun u m w' hm hI hR => ⟨⟨#[undef, undef, undef, undef, undef, undef, undef, undef, undef, undef, undef, undef, undef, undef, undef, undef, undef, undef, undef, undef, undef, u 12, undef, undef, undef, undef, undef, undef, undef, undef, undef, undef, undef, undef, undef, undef, undef, undef, undef, undef, undef, undef, undef, undef, undef, undef], []⟩, rfl, fun d hd => by cases hd; exact (by decide : 3 < 46), ?_⟩
        have k0 := keep_cell hI wg
        have k1 := keep_cell hI x0
        have k2 := keep_cell hI x1
        have k3 := keep_cell hI x2
        have k4 := keep_cell hI x3
        have k5 := keep_cell hI wk
        obtain ⟨s_, e_, h_⟩ := hR 12 (by decide)
        rw [e_]
        have HI := Lib.hid hI
        have HSa := Lib.hid h_
        clear hI hst hR e_ h_
        go_wp2
        exact ⟨rfl, _, rfl, ⟨_, rfl, HSa.out⟩, HI.out, fun _ _ h => h⟩
    case hend =>
      intro u w' hI hR
      simp only [setAll, List.set_cons_zero, List.set_cons_succ]
      unfold wpList
      obtain ⟨s21, e21, h21, z21⟩ := hR 13 (by decide)
      rw [HT12'.out] at h21
      rw [e21]
      have HS21 := Lib.hid h21
      have HBw := Lib.hid hI
      clear hR hI hst e21 h21 z21 x0 x1 x2 x3 wg wk
      have c4 := keep_cell HBw.out (CS2.out 4 (by decide))
      simp only [List.getElem_toArray, List.getElem_cons_zero, List.getElem_cons_succ] at c4
      obtain ⟨bw, hbw⟩ : ∃ z, z = x.wrap := ⟨_, rfl⟩
      rw [← hbw] at c4
      have HBW := Lib.hid hbw
      have z21 : s21.size ≤ 80 := by
        rw [str_size HS21.out]
        have := head_len HF.out
        rw [List.length_append] at this
        omega
      have hc21 : ¬ (s21.size + 6 > 9223372036854775807) := by omega
      clear hbw
      go_upto_if 23 with fail
      go_cut [3] (fun t wc => ∃ s : ByteArray, t = .string s ∧ s = ⟨(reqHead x ++ rnd x.wrap).toArray⟩ ∧ wc = w')
      case first =>
        cases bw
        · go_wp2_with fail
          go_meet
          case rel => exact ⟨_, rfl, by rw [HS21.out, ← HBW.out]; simp [rnd], rfl⟩
        · go_wp2_with fail
          go_meet
          case rel => exact ⟨_, rfl, by rw [HS21.out, ← HBW.out]; exact ByteArray.mk_append_mk (reqHead x) [32, 114, 111, 117, 110, 100], rfl⟩
      case rest =>
        obtain ⟨s3, rfl, hs3, rfl⟩ := hcut
        obtain ⟨T0, hT0⟩ : ∃ z, z = reqHead x ++ rnd x.wrap := ⟨_, rfl⟩
        rw [← hT0] at hs3
        have HS3 := Lib.hid hs3
        have HT0 := Lib.hid hT0
        have HT0L : Hid (T0.length ≤ 80) := Lib.hid (by rw [hT0]; exact head_len HF.out)
        have hzl : (x.data.zip x.lanes).length = dn := by rw [List.length_zip, HF.out.lanes, Nat.min_self]; exact hn.out
        have HZL := Lib.hid hzl
        have hdn4 : dn ≤ 4 := by have := HF.out.len; have := hn.out; omega
        have HLN : Hid (ln = dn) := Lib.hid (by have := HF.out.lanes; have := hn.out; have := hm.out; omega)
        obtain ⟨W3, hW3⟩ : ∃ z, z = wc := ⟨_, rfl⟩
        rw [← hW3] at HBw
        rw [← hW3]
        have G03 := Lib.hid (SlR.below intR_fits G02.out HBw.out)
        have G13 := Lib.hid (SlR.below intR_fits G12.out HBw.out)
        have HP3 := Lib.hid (HP2.out.below HBw.out)
        have c5 := keep_cell HBw.out (CS2.out 5 (by decide))
        have c6 := keep_cell HBw.out (CS2.out 6 (by decide))
        simp only [List.getElem_toArray, List.getElem_cons_zero, List.getElem_cons_succ] at c5 c6
        have C6 := Lib.hid c6
        have B3 := Lib.hid (B2.out.trans (HBw.out.mono B2.out.size))
        clear hs3 hT0 hzl hW3 c4 hc21 z21 HBw HS21 G02 G12 CS2 HBW c6
        go_wp2_with fail
        clear c5
        go_loopw [3, 29] (fun t i wr => ∃ (k : Nat) (s : ByteArray), k ≤ dn ∧ i = .int .i64 (k : Int) ∧ t = .string s ∧ s = ⟨(T0 ++ prs ((x.data.zip x.lanes).take k)).toArray⟩ ∧ Below W3.heap.size W3 wr) (fun _ i _ => dn - (intOf i).toNat)
        case atStart => exact ⟨0, s3, Nat.zero_le _, rfl, rfl, by rw [HS3.out]; simp [prs], Below.refl _ _⟩
        case round =>
          obtain ⟨k, s, hk, rfl, rfl, hs, hb⟩ := hrel
          obtain ⟨T, hT⟩ : ∃ z, z = T0 ++ prs ((x.data.zip x.lanes).take k) := ⟨_, rfl⟩
          rw [← hT] at hs
          have hTl : T.length ≤ 250 := by
            rw [hT, List.length_append]
            have h1 := prs_len ((x.data.zip x.lanes).take k) (fun p hp => by
              have h2 := List.mem_of_mem_take hp
              have h3 := HF.out.dat _ (List.of_mem_zip (a := p.1) (b := p.2) h2).1
              have h4 := HF.out.lan _ (List.of_mem_zip (a := p.1) (b := p.2) h2).2
              omega)
            have h2 : ((x.data.zip x.lanes).take k).length ≤ 4 := by rw [List.length_take]; omega
            have := HT0L.out
            omega
          have HS := Lib.hid hs
          have HB := Lib.hid hb
          have HT := Lib.hid hT
          have hsz : s.size ≤ 250 := by rw [str_size hs]; exact hTl
          have c6 := keep_cell hb C6.out
          clear hs hb hT hTl
          by_cases hlt : k < dn
          · have hlti : (k : Int) < (dn : Int) := by omega
            have hltl : (k : Int) < (ln : Int) := by have := HLN.out; omega
            obtain ⟨_, _, _, e, _, _, _, _, r⟩ := G03.out.opened
            cases e
            obtain ⟨_, _, _, e, _, _, _, _, r'⟩ := G13.out.opened
            cases e
            obtain ⟨i1, bd, od, f1, cs1, rfl, hbd, _, _, hR1, e1⟩ := r k hlt
            obtain ⟨rfl, rfl⟩ := hR1
            obtain ⟨i2, bl, ol, f2, cs2, rfl, hbl, _, _, hR2, e2⟩ := r' k (by have := HLN.out; omega)
            obtain ⟨rfl, rfl⟩ := hR2
            have d1 := (HB.out.cell (p := ⟨bd, od + k * 1 + 0, none⟩) hbd).trans (e1 0 (by simp))
            have d2 := (HB.out.cell (p := ⟨bl, ol + k * 1 + 0, none⟩) hbl).trans (e2 0 (by simp))
            simp only [Nat.mul_one, Nat.add_zero, List.getElem_cons_zero] at d1 d2
            obtain ⟨z1, hz1⟩ : ∃ z, z = x.data[k] := ⟨_, rfl⟩
            obtain ⟨z2, hz2⟩ : ∃ z, z = x.lanes[k] := ⟨_, rfl⟩
            rw [← hz1] at d1
            rw [← hz2] at d2
            have hr1 : 0 ≤ z1 ∧ z1 ≤ 65535 := by rw [hz1]; exact HF.out.dat _ (List.getElem_mem i1)
            have hr2 : 0 ≤ z2 ∧ z2 ≤ 3 := by rw [hz2]; exact HF.out.lan _ (List.getElem_mem i2)
            have hzk : (x.data.zip x.lanes)[k]'(by rw [HZL.out]; exact hlt) = (z1, z2) := by rw [List.getElem_zip, ← hz1, ← hz2]
            obtain ⟨P, hP⟩ : ∃ z, z = tk z1 ++ tk z2 := ⟨_, rfl⟩
            have HPt : Hid ([] ++ [z1, z2].flatMap tk = P) := Lib.hid (by rw [hP]; simp)
            have HU : Hid (T ++ P = T0 ++ prs ((x.data.zip x.lanes).take (k + 1))) := Lib.hid (by
              rw [hP, HT.out, prs_take (by rw [HZL.out]; exact hlt), hzk]
              simp)
            have hPl : P.length ≤ 42 := by
              have h1 := tk_len z1 (by omega)
              have h2 := tk_len z2 (by omega)
              rw [hP, List.length_append]
              omega
            clear e1 e2 hz1 hz2 r r' hzk hP
            go_wp2_with fail
            obtain ⟨fl, gl⟩ := lits wr #[.int .i64 z1, .int .i64 z2] [z1, z2] rfl 2 rfl (by decide)
            have ba := below_alloc wr (.cells #[.int .i64 z1, .int .i64 z2] 3)
            have HPw := Lib.hid ((HP3.out.below HB.out).below ba)
            refine (join_any ⟨#[]⟩ [] rfl (by decide) _ [z1, z2] fl (by simp) (fun n hn => by simp at hn; rcases hn with rfl | rfl <;> omega) _ HPw.out gl).mono ?_
            rw [HPt.out]
            rintro e w5 ⟨rfl, b5⟩
            have HBa := HB.out.trans (ba.mono HB.out.size)
            have HBw := Lib.hid (HBa.trans (b5.mono HBa.size))
            obtain ⟨t, ht⟩ : ∃ t : ByteArray, t = ⟨P.toArray⟩ := ⟨_, rfl⟩
            rw [← ht]
            have htz : t.size ≤ 42 := by rw [str_size ht]; exact hPl
            have hcc : ¬ (s.size + t.size > 9223372036854775807) := by omega
            have HTt := Lib.hid ht
            clear ba b5 gl HBa ht d1 d2 c6 hPl
            go_wp2
            go_roundw
            case rel => exact ⟨k + 1, _, by omega, by go_num, rfl, by rw [HS.out, HTt.out, ByteArray.mk_append_mk, HU.out], HBw.out⟩
            case measure => simp [intOf]; omega
          · have hnlt : ¬ (k : Int) < (dn : Int) := by omega
            have HKN : Hid (k = (x.data.zip x.lanes).length) := Lib.hid (by rw [HZL.out]; omega)
            go_wp2
            go_ret
            exact ⟨by rw [Q.out, HS.out, HT.out, HT0.out, show (x.data.zip x.lanes).take k = x.data.zip x.lanes from by rw [HKN.out, List.take_length]]; rfl, B3.out.trans (HB.out.mono B3.out.size)⟩

end Go.Proofs.YtaeiddoccfaheaaDoor
