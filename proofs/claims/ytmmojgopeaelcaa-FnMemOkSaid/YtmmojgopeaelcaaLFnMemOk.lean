/-
  Proved: the Go function laws.FnMemOk returns true for every code, and the code reads afterwards as before: a new store is ok and all noughts; of one that is ok, with a word less, or one that is none, it is not.
  Conditions: none.
-/
import Derived.Test.YtmmojgopeaelcaaLift
import Derived.Test.YtmmojgopeaelcaaDMem
import Derived.Test.YtmmojgopeaelcaaCrInts
import Derived.Test.YtmmojgopeaelcaaOk
import Derived.Test.YtmmojgopeaelcaaMem
import Derived.Test.YtmmojgopeaelcaaFacts2
import Derived.Test.YtmmojgopeaelcaaRegion3
import Derived.Test.YtmmojgopeaelcaaCr
namespace Go.Proofs.Ytmmojgopeaelcaa.fnMemOk
set_option linter.unusedVariables false
set_option linter.unusedSimpArgs false
open Go.ChangeShapes Go.WideShapes Go.ChangeAt Go.RowKit

theorem zeros_ok : memOk (List.replicate 64 0) = true := by decide
theorem ok_len {x : List Int} (h : memOk x = true) : x.length = 64 := by
  unfold memOk at h
  rw [Bool.and_eq_true] at h
  exact of_decide_eq_true h.1
theorem set_bad {x : List Int} (h : memOk x = true) {i : Nat} (hi : i < x.length) : memOk (x.set i 65536) = false := by
  have hl := ok_len h
  rw [memOk_at (by rw [List.length_set]; exact hl)]
  exact allIn_no (k := i) (by rw [List.length_set]; exact hi) (by rw [List.getElem_set_self]; decide)
theorem drop_bad {x : List Int} (h : memOk x = true) : memOk (x.drop 1) = false := memOk_len (by rw [List.length_drop, ok_len h]; decide)

set_option maxRecDepth 100000 in
set_option maxHeartbeats 6400000 in
theorem walk (v : Value) (l0 : List Int) (fp0 : List Nat) (w : World) (g : ByteS w l0 v fp0) :
    Calls Try.prog 9 #[v] w fun e w' => e = .returned (.bool true) ∧ Below w.heap.size w w' := by
  obtain ⟨a0, n0, c0, rfl, hn0, hcap0, hmax0, hcm0, _⟩ := g.opened
  obtain ⟨i0, ki, kz0, kz1, kz2⟩ := info_parts infoInt
  have G := Lib.hid g
  clear g
  by_cases hb : 1048576 < n0
  · go_enter Try.func9, Try.ntmps9
    go_wp2
    go_ret
    exact ⟨rfl, Below.refl _ _⟩
  · go_enter Try.func9, Try.ntmps9
    go_wp2_with fail
    refine (drawMemOk_any _ l0 fp0 w G.out).mono ?_
    rintro e w1 ⟨x, v1, fp, rfl, s1, hl5, b1⟩
    obtain ⟨a, n, c, rfl, hn, hcap, hmax, hcm, _⟩ := s1.opened
    have ba := below_alloc w1 (.cells #[.slice a n c] 65)
    have S1 := Lib.hid (SlR.below intR_fits s1 ba)
    have B1 := Lib.hid (b1.trans (ba.mono b1.size))
    clear s1 b1 hl5 ba
    go_wp2_with fail
    refine (iMemOk_any _ x fp _ S1.out).mono ?_
    obtain ⟨b, hbb⟩ : ∃ b, b = memOk x := ⟨_, rfl⟩
    rw [← hbb]
    have HBB := Lib.hid hbb
    clear hbb
    rintro e w2 ⟨rfl, b2⟩
    have P := keep_cell b2 (alloc1_new w1 _ _ 0 rfl)
    replace S1 := Lib.hid (SlR.below intR_fits S1.out b2)
    replace B1 := Lib.hid (B1.out.trans (b2.mono B1.out.size))
    clear b2
    go_wp2_with fail
    refine (iMemNew_any _).mono ?_
    rintro e w3 ⟨vz, fz, rfl, sz, _, b3⟩
    obtain ⟨az, nz, cz, rfl⟩ := sz.form
    replace P := keep_cell b3 P
    replace S1 := Lib.hid (SlR.below intR_fits S1.out b3)
    replace B1 := Lib.hid (B1.out.trans (b3.mono B1.out.size))
    have SZ := Lib.hid sz
    clear b3 sz
    go_wp2_with fail
    obtain ⟨W4, hW4⟩ : ∃ W, W = w3.alloc (.cells #[.slice az nz cz] 65) := ⟨_, rfl⟩
    have ba : Below w3.heap.size w3 W4 := by rw [hW4]; exact below_alloc _ _
    have Z : W4.cell? ⟨w3.heap.size, 0, none⟩ = some (.slice az nz cz) := by rw [hW4]; exact alloc1_new _ _ _ 0 rfl
    rw [← hW4]
    replace P := keep_cell ba P
    replace S1 := Lib.hid (SlR.below intR_fits S1.out ba)
    replace SZ := Lib.hid (SlR.below intR_fits SZ.out ba)
    replace B1 := Lib.hid (B1.out.trans (ba.mono B1.out.size))
    clear ba hW4
    have hst : ∀ F, F ∈ [FEq (.bool b), FEq (.agg #[.slice a n c]), FEq (.bool b), FEq (.bool false), FEq (.bool false), FEq (.pointer (some ⟨w3.heap.size, 0, none⟩)), FEq (.slice az nz cz), fun v w => ∃ v' fp', v = .agg #[v'] ∧ SlR 1 intR w (List.replicate 64 0) v' fp', FSlR 1 intR (List.replicate 64 0), FEq (.bool true), FEq (.bool false), FEq (.bool false), FEq (.bool false), FEq (.agg #[.slice az nz cz]), FEq (.bool true), FEq (.bool false), FEq (.bool false)] → Stable [] F := by
      simp only [List.forall_mem_cons]
      exact ⟨stEq _ _, stEq _ _, stEq _ _, stEq _ _, stEq _ _, stEq _ _, stEq _ _, fun _ _ _ ⟨v', fp', e, h⟩ hc => ⟨v', fp', e, h.chg intR_fits hc (fun _ _ => by simp)⟩, stSlR intR_fits _, stEq _ _, stEq _ _, stEq _ _, stEq _ _, stEq _ _, stEq _ _, stEq _ _, stEq _ _, fun _ h => by simp at h⟩
    refine wp_region_tail (by kernel_rfl) (fun i => ([[], [], [1], [0, 1, 2], [0, 1, 2, 3], [0, 1, 2, 3, 4], [0, 1, 2, 3, 4, 5], [0, 1, 2, 3, 4], [0, 1, 2, 3, 4, 7], [0, 1, 2, 3, 4, 5, 6, 7, 8], [0, 1, 2, 3, 4, 5, 6, 7, 8, 9], [0, 1, 2, 3, 4, 5, 6, 7, 8, 9, 10], [0, 1, 2, 3, 4, 5, 6, 7, 8, 9, 10, 11], [0, 1, 2, 3, 4, 5, 6, 7, 8, 9, 10, 11, 12], [0, 1, 2, 3, 4, 5, 6, 7, 8, 9, 10, 11, 12, 13], [0, 1, 2, 3, 4, 5, 6, 7, 8, 9, 10, 11, 12, 13, 14], [0, 1, 2, 3, 4, 5, 6, 7, 8, 9, 10, 11, 12, 13, 14, 15]] : List (List Nat)).getD i []) (facts [FEq (.bool b), FEq (.agg #[.slice a n c]), FEq (.bool b), FEq (.bool false), FEq (.bool false), FEq (.pointer (some ⟨w3.heap.size, 0, none⟩)), FEq (.slice az nz cz), fun v w => ∃ v' fp', v = .agg #[v'] ∧ SlR 1 intR w (List.replicate 64 0) v' fp', FSlR 1 intR (List.replicate 64 0), FEq (.bool true), FEq (.bool false), FEq (.bool false), FEq (.bool false), FEq (.agg #[.slice az nz cz]), FEq (.bool true), FEq (.bool false), FEq (.bool false)]) (fun m w' => Below W4.heap.size W4 w') 66 17 17 [some 15, some 16, some 17, some 18, some 19, some 20, some 21, some 22, some 23, some 24, some 25, some 26, some 27, some 28, some 29, some 30, some 31] [] rfl rfl (by decide) rfl rfl (by kernel_rfl) (by kernel_rfl) [(12, false), (4, false)] (by kernel_rfl) (fun g b hm v w h => by simp only [List.mem_cons, List.not_mem_nil, or_false, Prod.mk.injEq] at hm; rcases hm with ⟨rfl, rfl⟩ | ⟨rfl, rfl⟩ <;> exact h) ?h0 (all_lt (n := 17) ?hop) ?hend
    case h0 => exact (Below.refl _ _).drew
    case hop =>
      refine ⟨⟨⟨⟨⟨⟨⟨⟨⟨⟨⟨⟨⟨⟨⟨⟨⟨trivial, ?_⟩, ?_⟩, ?_⟩, ?_⟩, ?_⟩, ?_⟩, ?_⟩, ?_⟩, ?_⟩, ?_⟩, ?_⟩, ?_⟩, ?_⟩, ?_⟩, ?_⟩, ?_⟩, ?_⟩
      · refine Owes.mk _ rfl rfl (fun _ _ h => by cases h) fun u m w' hm hI hR => ⟨⟨#[undef, undef, undef, undef, .bool b, undef, undef, undef, undef, undef, undef, undef, undef, undef, undef, undef, undef, undef, undef, undef, undef, undef, undef, undef, undef, undef, undef, undef, undef, undef, undef, undef, undef, undef, undef, undef, undef, undef, undef, undef, undef, undef, undef, undef, undef, undef, undef, undef, undef, undef, undef, undef, undef, undef, undef, undef, undef, undef, undef, undef, undef, undef, undef, undef, undef, undef], []⟩, rfl, fun d hd => by cases hd; exact (by decide : 15 < 66), ?_⟩
        have k0 := keep_cell hI P
        have k1 := keep_cell hI Z
        have HI := Lib.hid hI
        clear hI hst hR
        go_wp2
        exact ⟨rfl, _, rfl, rfl, HI.out, fun _ _ h => h⟩
      · refine Owes.mk _ rfl rfl (fun _ _ h => by cases h) fun u m w' hm hI hR => ⟨⟨#[undef, undef, undef, .pointer (some ⟨w1.heap.size, 0, none⟩), undef, undef, undef, undef, undef, undef, undef, undef, undef, undef, undef, undef, undef, undef, undef, undef, undef, undef, undef, undef, undef, undef, undef, undef, undef, undef, undef, undef, undef, undef, undef, undef, undef, undef, undef, undef, undef, undef, undef, undef, undef, undef, undef, undef, undef, undef, undef, undef, undef, undef, undef, undef, undef, undef, undef, undef, undef, undef, undef, undef, undef, undef], []⟩, rfl, fun d hd => by cases hd; exact (by decide : 16 < 66), ?_⟩
        have k0 := keep_cell hI P
        have k1 := keep_cell hI Z
        have HI := Lib.hid hI
        clear hI hst hR
        go_wp2
        exact ⟨rfl, _, rfl, rfl, HI.out, fun _ _ h => h⟩
      · refine Owes.mk _ rfl rfl (fun _ _ h => by cases h) fun u m w' hm hI hR => ⟨⟨#[undef, undef, undef, undef, undef, undef, undef, undef, undef, undef, undef, undef, undef, undef, undef, undef, u 1, undef, undef, undef, undef, undef, undef, undef, undef, undef, undef, undef, undef, undef, undef, undef, undef, undef, undef, undef, undef, undef, undef, undef, undef, undef, undef, undef, undef, undef, undef, undef, undef, undef, undef, undef, undef, undef, undef, undef, undef, undef, undef, undef, undef, undef, undef, undef, undef, undef], []⟩, rfl, fun d hd => by cases hd; exact (by decide : 17 < 66), ?_⟩
        have e1 : u 1 = _ := hR 1 (by decide)
        have k0 := keep_cell hI P
        have k1 := keep_cell hI Z
        rw [e1]
        clear e1
        have HX := Lib.hid (SlR.below intR_fits S1.out hI)
        go_wp2_with fail
        refine (sMemOk_any _ x fp _ HX.out).mono ?_
        rw [← HBB.out]
        rintro e w5 ⟨rfl, b5⟩
        have HS := Lib.hid (facts_stable hst (b5.chg []))
        have HI := Lib.hid (hI.trans (b5.mono hI.size))
        clear hI b5 hst hR
        go_wp2
        exact ⟨rfl, _, rfl, rfl, HI.out, HS.out⟩
      · refine Owes.mk _ rfl rfl (fun _ _ h => by cases h) fun u m w' hm hI hR => ⟨⟨#[undef, undef, undef, undef, undef, undef, undef, undef, undef, undef, undef, undef, undef, undef, undef, u 0, undef, u 2, undef, undef, undef, undef, undef, undef, undef, undef, undef, undef, undef, undef, undef, undef, undef, undef, undef, undef, undef, undef, undef, undef, undef, undef, undef, undef, undef, undef, undef, undef, undef, undef, undef, undef, undef, undef, undef, undef, undef, undef, undef, undef, undef, undef, undef, undef, undef, undef], []⟩, rfl, fun d hd => by cases hd; exact (by decide : 18 < 66), ?_⟩
        have e0 : u 0 = _ := hR 0 (by decide)
        have e2 : u 2 = _ := hR 2 (by decide)
        have k0 := keep_cell hI P
        have k1 := keep_cell hI Z
        have HI := Lib.hid hI
        clear hI hst hR
        rw [e0, e2]
        clear e0 e2
        go_wp2
        exact ⟨rfl, _, rfl, rfl, HI.out, fun _ _ h => h⟩
      · refine Owes.mk _ rfl rfl (fun _ _ h => by cases h) fun u m w' hm hI hR => ⟨⟨#[undef, undef, undef, undef, undef, undef, undef, undef, undef, undef, undef, undef, undef, undef, undef, undef, undef, undef, u 3, undef, undef, undef, undef, undef, undef, undef, undef, undef, undef, undef, undef, undef, undef, undef, undef, undef, undef, undef, undef, undef, undef, undef, undef, undef, undef, undef, undef, undef, undef, undef, undef, undef, undef, undef, undef, undef, undef, undef, undef, undef, undef, undef, undef, undef, undef, undef], []⟩, rfl, fun d hd => by cases hd; exact (by decide : 19 < 66), ?_⟩
        have e3 : u 3 = _ := hR 3 (by decide)
        have k0 := keep_cell hI P
        have k1 := keep_cell hI Z
        have HI := Lib.hid hI
        clear hI hst hR
        rw [e3]
        clear e3
        go_wp2
        exact ⟨rfl, _, rfl, rfl, HI.out, fun _ _ h => h⟩
      · refine Owes.mkG _ _ rfl rfl (fun _ _ h => by cases h) fun u m w' hm hI hR => ⟨⟨#[undef, undef, undef, undef, undef, .pointer (some ⟨w3.heap.size, 0, none⟩), undef, undef, undef, undef, undef, undef, undef, undef, undef, undef, undef, undef, undef, undef, undef, undef, undef, undef, undef, undef, undef, undef, undef, undef, undef, undef, undef, undef, undef, undef, undef, undef, undef, undef, undef, undef, undef, undef, undef, undef, undef, undef, undef, undef, undef, undef, undef, undef, undef, undef, undef, undef, undef, undef, undef, undef, undef, undef, undef, undef], []⟩, rfl, fun d hd => by cases hd; exact (by decide : 20 < 66), ?_⟩
        have k0 := keep_cell hI P
        have k1 := keep_cell hI Z
        have HI := Lib.hid hI
        clear hI hst hR
        go_wp2
        exact ⟨rfl, _, rfl, rfl, HI.out, fun _ _ h => h⟩
      · refine Owes.mkG _ _ rfl rfl (fun _ _ h => by cases h) fun u m w' hm hI hR => ⟨⟨#[undef, undef, undef, undef, undef, undef, undef, undef, undef, undef, undef, undef, undef, undef, undef, undef, undef, undef, undef, undef, u 5, undef, undef, undef, undef, undef, undef, undef, undef, undef, undef, undef, undef, undef, undef, undef, undef, undef, undef, undef, undef, undef, undef, undef, undef, undef, undef, undef, undef, undef, undef, undef, undef, undef, undef, undef, undef, undef, undef, undef, undef, undef, undef, undef, undef, undef], []⟩, rfl, fun d hd => by cases hd; exact (by decide : 21 < 66), ?_⟩
        have e5 : u 5 = _ := hR 5 (by decide)
        have k0 := keep_cell hI P
        have k1 := keep_cell hI Z
        have HI := Lib.hid hI
        clear hI hst hR
        rw [e5]
        clear e5
        go_wp2
        exact ⟨rfl, _, rfl, rfl, HI.out, fun _ _ h => h⟩
      · refine Owes.mkG _ _ rfl rfl (fun _ _ h => by cases h) fun u m w' hm hI hR => ⟨⟨#[undef, undef, undef, undef, undef, undef, undef, undef, undef, undef, undef, undef, undef, undef, undef, undef, undef, undef, undef, undef, undef, undef, undef, undef, undef, undef, undef, undef, undef, undef, undef, undef, undef, undef, undef, undef, undef, undef, undef, undef, undef, undef, undef, undef, undef, undef, undef, undef, undef, undef, undef, undef, undef, undef, undef, undef, undef, undef, undef, undef, undef, undef, undef, undef, undef, undef], []⟩, rfl, fun d hd => by cases hd; exact (by decide : 22 < 66), ?_⟩
        have k0 := keep_cell hI P
        have k1 := keep_cell hI Z
        go_wp2_with fail
        refine (sMemNew_any _).mono ?_
        rintro e w5 ⟨v', f', rfl, s', _, b5⟩
        have HS := Lib.hid (facts_stable hst (b5.chg []))
        have HI := Lib.hid (hI.trans (b5.mono hI.size))
        have HX := Lib.hid s'
        clear hI b5 hst hR s'
        go_wp2
        exact ⟨rfl, _, rfl, ⟨_, _, rfl, HX.out⟩, HI.out, HS.out⟩
      · refine Owes.mkG _ _ rfl rfl (fun _ _ h => by cases h) fun u m w' hm hI hR => ⟨⟨#[undef, undef, undef, undef, undef, undef, undef, undef, undef, undef, undef, undef, undef, undef, undef, undef, undef, undef, undef, undef, undef, undef, u 7, undef, undef, undef, undef, undef, undef, undef, undef, undef, undef, undef, undef, undef, undef, undef, undef, undef, undef, undef, undef, undef, undef, undef, undef, undef, undef, undef, undef, undef, undef, undef, undef, undef, undef, undef, undef, undef, undef, undef, undef, undef, undef, undef], []⟩, rfl, fun d hd => by cases hd; exact (by decide : 23 < 66), ?_⟩
        have k0 := keep_cell hI P
        have k1 := keep_cell hI Z
        obtain ⟨v', f', e7, h7⟩ := hR 7 (by decide)
        obtain ⟨av, nv, cv, rfl⟩ := h7.form
        rw [e7]
        have HX := Lib.hid h7
        have HI := Lib.hid hI
        clear hI hst hR h7 e7
        go_wp2
        rename_i hK
        exact hK _ _ ⟨rfl, _, rfl, ⟨_, HX.out⟩, HI.out, fun _ _ h => h⟩
      · refine Owes.mkG _ _ rfl rfl (fun _ _ h => by cases h) fun u m w' hm hI hR => ⟨⟨#[undef, undef, undef, undef, undef, undef, undef, undef, undef, undef, undef, undef, undef, undef, undef, undef, undef, undef, undef, undef, undef, u 6, undef, u 8, undef, undef, undef, undef, undef, undef, undef, undef, undef, undef, undef, undef, undef, undef, undef, undef, undef, undef, undef, undef, undef, undef, undef, undef, undef, undef, undef, undef, undef, undef, undef, undef, undef, undef, undef, undef, undef, undef, undef, undef, undef, undef], []⟩, rfl, fun d hd => by cases hd; exact (by decide : 24 < 66), ?_⟩
        have e6 : u 6 = _ := hR 6 (by decide)
        have k0 := keep_cell hI P
        have k1 := keep_cell hI Z
        rw [e6]
        clear e6
        obtain ⟨f', h8⟩ := hR 8 (by decide)
        have HX := Lib.hid h8
        have HY := Lib.hid (SlR.below intR_fits SZ.out hI)
        go_wp2_with fail
        refine (crInts_any _ _ _ _ fz f' _ HY.out HX.out).mono ?_
        rw [decide_eq_true rfl]
        rintro e w5 ⟨rfl, m, hw⟩
        have b5 : Below w'.heap.size w' w5 := by rw [hw]; exact below_drewN (Below.refl _ _) m
        have HS := Lib.hid (facts_stable hst (b5.chg []))
        have HI := Lib.hid (hI.trans (b5.mono hI.size))
        clear hI b5 hst hR hw h8
        go_wp2
        exact ⟨rfl, _, rfl, rfl, HI.out, HS.out⟩
      · refine Owes.mkG _ _ rfl rfl (fun _ _ h => by cases h) fun u m w' hm hI hR => ⟨⟨#[undef, undef, undef, undef, undef, undef, undef, undef, undef, undef, undef, undef, undef, undef, undef, undef, undef, undef, undef, undef, undef, undef, undef, undef, u 9, undef, undef, undef, undef, undef, undef, undef, undef, undef, undef, undef, undef, undef, undef, undef, undef, undef, undef, undef, undef, undef, undef, undef, undef, undef, undef, undef, undef, undef, undef, undef, undef, undef, undef, undef, undef, undef, undef, undef, undef, undef], []⟩, rfl, fun d hd => by cases hd; exact (by decide : 25 < 66), ?_⟩
        have e9 : u 9 = _ := hR 9 (by decide)
        have k0 := keep_cell hI P
        have k1 := keep_cell hI Z
        have HI := Lib.hid hI
        clear hI hst hR
        rw [e9]
        clear e9
        go_wp2
        exact ⟨rfl, _, rfl, rfl, HI.out, fun _ _ h => h⟩
      · refine Owes.mk _ rfl rfl (fun _ _ h => by cases h) fun u m w' hm hI hR => ⟨⟨#[undef, undef, undef, undef, undef, undef, undef, undef, undef, undef, undef, undef, undef, undef, undef, undef, undef, undef, undef, u 4, undef, undef, undef, undef, undef, u 10, undef, undef, undef, undef, undef, undef, undef, undef, undef, undef, undef, undef, undef, undef, undef, undef, undef, undef, undef, undef, undef, undef, undef, undef, undef, undef, undef, undef, undef, undef, undef, undef, undef, undef, undef, undef, undef, undef, undef, undef], []⟩, rfl, fun d hd => by cases hd; exact (by decide : 26 < 66), ?_⟩
        have e4 : u 4 = _ := hR 4 (by decide)
        have e10 : u 10 = _ := hR 10 (by decide)
        have k0 := keep_cell hI P
        have k1 := keep_cell hI Z
        have HI := Lib.hid hI
        clear hI hst hR
        rw [e4, e10]
        clear e4 e10
        go_wp2
        exact ⟨rfl, _, rfl, rfl, HI.out, fun _ _ h => h⟩
      · refine Owes.mk _ rfl rfl (fun _ _ h => by cases h) fun u m w' hm hI hR => ⟨⟨#[undef, undef, undef, undef, undef, undef, undef, undef, undef, undef, undef, undef, undef, undef, undef, undef, undef, undef, undef, undef, undef, undef, undef, undef, undef, undef, u 11, undef, undef, undef, undef, undef, undef, undef, undef, undef, undef, undef, undef, undef, undef, undef, undef, undef, undef, undef, undef, undef, undef, undef, undef, undef, undef, undef, undef, undef, undef, undef, undef, undef, undef, undef, undef, undef, undef, undef], []⟩, rfl, fun d hd => by cases hd; exact (by decide : 27 < 66), ?_⟩
        have e11 : u 11 = _ := hR 11 (by decide)
        have k0 := keep_cell hI P
        have k1 := keep_cell hI Z
        have HI := Lib.hid hI
        clear hI hst hR
        rw [e11]
        clear e11
        go_wp2
        exact ⟨rfl, _, rfl, rfl, HI.out, fun _ _ h => h⟩
      · refine Owes.mkG _ _ rfl rfl (fun _ _ h => by cases h) fun u m w' hm hI hR => ⟨⟨#[undef, undef, undef, undef, undef, .pointer (some ⟨w3.heap.size, 0, none⟩), undef, undef, undef, undef, undef, undef, undef, undef, undef, undef, undef, undef, undef, undef, undef, undef, undef, undef, undef, undef, undef, undef, undef, undef, undef, undef, undef, undef, undef, undef, undef, undef, undef, undef, undef, undef, undef, undef, undef, undef, undef, undef, undef, undef, undef, undef, undef, undef, undef, undef, undef, undef, undef, undef, undef, undef, undef, undef, undef, undef], []⟩, rfl, fun d hd => by cases hd; exact (by decide : 28 < 66), ?_⟩
        have k0 := keep_cell hI P
        have k1 := keep_cell hI Z
        have HI := Lib.hid hI
        clear hI hst hR
        go_wp2
        exact ⟨rfl, _, rfl, rfl, HI.out, fun _ _ h => h⟩
      · refine Owes.mkG _ _ rfl rfl (fun _ _ h => by cases h) fun u m w' hm hI hR => ⟨⟨#[undef, undef, undef, undef, undef, undef, undef, undef, undef, undef, undef, undef, undef, undef, undef, undef, undef, undef, undef, undef, undef, undef, undef, undef, undef, undef, undef, undef, u 13, undef, undef, undef, undef, undef, undef, undef, undef, undef, undef, undef, undef, undef, undef, undef, undef, undef, undef, undef, undef, undef, undef, undef, undef, undef, undef, undef, undef, undef, undef, undef, undef, undef, undef, undef, undef, undef], []⟩, rfl, fun d hd => by cases hd; exact (by decide : 29 < 66), ?_⟩
        have e13 : u 13 = _ := hR 13 (by decide)
        have k0 := keep_cell hI P
        have k1 := keep_cell hI Z
        rw [e13]
        clear e13
        have HX := Lib.hid (SlR.below intR_fits SZ.out hI)
        go_wp2_with fail
        refine (iMemOk_any _ _ fz _ HX.out).mono ?_
        rw [zeros_ok]
        rintro e w5 ⟨rfl, b5⟩
        have HS := Lib.hid (facts_stable hst (b5.chg []))
        have HI := Lib.hid (hI.trans (b5.mono hI.size))
        clear hI b5 hst hR
        go_wp2
        exact ⟨rfl, _, rfl, rfl, HI.out, HS.out⟩
      · refine Owes.mkG _ _ rfl rfl (fun _ _ h => by cases h) fun u m w' hm hI hR => ⟨⟨#[undef, undef, undef, undef, undef, undef, undef, undef, undef, undef, undef, undef, undef, undef, undef, undef, undef, undef, undef, undef, undef, undef, undef, undef, undef, undef, undef, undef, undef, u 14, undef, undef, undef, undef, undef, undef, undef, undef, undef, undef, undef, undef, undef, undef, undef, undef, undef, undef, undef, undef, undef, undef, undef, undef, undef, undef, undef, undef, undef, undef, undef, undef, undef, undef, undef, undef], []⟩, rfl, fun d hd => by cases hd; exact (by decide : 30 < 66), ?_⟩
        have e14 : u 14 = _ := hR 14 (by decide)
        have k0 := keep_cell hI P
        have k1 := keep_cell hI Z
        have HI := Lib.hid hI
        clear hI hst hR
        rw [e14]
        clear e14
        go_wp2
        exact ⟨rfl, _, rfl, rfl, HI.out, fun _ _ h => h⟩
      · refine Owes.mk _ rfl rfl (fun _ _ h => by cases h) fun u m w' hm hI hR => ⟨⟨#[undef, undef, undef, undef, undef, undef, undef, undef, undef, undef, undef, undef, undef, undef, undef, undef, undef, undef, undef, undef, undef, undef, undef, undef, undef, undef, undef, u 12, undef, undef, u 15, undef, undef, undef, undef, undef, undef, undef, undef, undef, undef, undef, undef, undef, undef, undef, undef, undef, undef, undef, undef, undef, undef, undef, undef, undef, undef, undef, undef, undef, undef, undef, undef, undef, undef, undef], []⟩, rfl, fun d hd => by cases hd; exact (by decide : 31 < 66), ?_⟩
        have e12 : u 12 = _ := hR 12 (by decide)
        have e15 : u 15 = _ := hR 15 (by decide)
        have k0 := keep_cell hI P
        have k1 := keep_cell hI Z
        have HI := Lib.hid hI
        clear hI hst hR
        rw [e12, e15]
        clear e12 e15
        go_wp2
        exact ⟨rfl, _, rfl, rfl, HI.out, fun _ _ h => h⟩
    case hend =>
      intro u w' hI hR
      simp only [setAll, List.set_cons_zero, List.set_cons_succ]
      unfold wpList
      have e16 : u 16 = .bool false := hR 16 (by decide)
      rw [e16]
      have P' := keep_cell hI P
      have S' := Lib.hid (SlR.below intR_fits S1.out hI)
      have B' := Lib.hid (B1.out.trans (hI.mono B1.out.size))
      clear hR hst e16 hI P S1 B1 SZ Z
      cases b
      · go_wp2_with fail
        refine (crOk_any _).mono ?_
        rintro e w4 ⟨rfl, rfl⟩
        go_wp2
        go_ret
        exact ⟨rfl, B'.out⟩
      · have hl := ok_len HBB.out.symm
        have hn64 : n = 64 := by rw [← hn.out]; exact hl
        subst hn64
        obtain ⟨_, _, _, e, _, _, _, _, r⟩ := S'.out.opened
        simp only [Value.slice.injEq] at e
        obtain ⟨rfl, rfl, rfl⟩ := e
        obtain ⟨i1, b1, o1, f1, cs, rfl, hb1, _⟩ := r 0 (by decide)
        have HFC := Lib.hid (SlR.flat_cells IntC_len (by decide) (SlR.below intR_fits S'.out (below_alloc w' (.cells #[] 3))))
        have HL := Lib.hid hl
        clear r hl
        have P2 := P'
        have HLT := Lib.hid (S'.out.lt intR_fits)
        have HWS := Lib.hid B'.out.size
        have zP : w1.heap.size < w'.heap.size := block_of_cell P2
        go_wp2_with (at_builtin; refine wpList_append_empty (K := 1) (c := IntC) (news := x) rfl _ _ 23 3 i0 (.int .i64 0) 8 IntC_len rfl Try.underlying23 ki kz0 kz1 kz2 rfl (by decide) rfl rfl HL.out (by decide) HFC.out (by decide) ?_; intro v' w6 hown hb'; have hf := hown.form (by intro e; have := HL.out; simp [e] at this); rw [HL.out] at hf; obtain ⟨g6, c6, rfl, hg6, hgl6, hcc6, hc6⟩ := hf; have HO := Lib.hid hown; go_loud (have HB : Hid (Below w'.heap.size w' w6) := Lib.hid ((below_alloc _ _).trans (hb'.mono (by simp)))); clear hown hb')
        obtain ⟨W7, hW7⟩ : ∃ W, W = w6.alloc (.cells #[.slice (some ⟨g6, 0, none⟩) 64 c6] 65) := ⟨_, rfl⟩
        have ba : Below w6.heap.size w6 W7 := by rw [hW7]; exact below_alloc _ _
        have Z : W7.cell? ⟨w6.heap.size, 0, none⟩ = some (.slice (some ⟨g6, 0, none⟩) 64 c6) := by rw [hW7]; exact alloc1_new _ _ _ 0 rfl
        rw [← hW7]
        replace P' := keep_cell ba (keep_cell HB.out P')
        replace S' := Lib.hid (SlR.below intR_fits (SlR.below intR_fits S'.out HB.out) ba)
        replace B' := Lib.hid ((B'.out.trans (HB.out.mono B'.out.size)).trans (ba.mono (Nat.le_trans B'.out.size HB.out.size)))
        have HO7 := Lib.hid (OwnR.lower (base' := 0) (OwnR.below HO.out ba) (Nat.zero_le _))
        have hg6' : w'.heap.size + 1 ≤ g6 := by simpa using hg6
        have hwg : w.heap.size ≤ g6 := by have := HWS.out; omega
        have hg7 : g6 ≠ w1.heap.size := by omega
        have hg8 : g6 ≠ w6.heap.size := by omega
        have HFG : Hid (∀ b, b ∈ fp → b ∉ [g6]) := Lib.hid (fun b hb hb' => by have := HLT.out b hb; simp at hb'; omega)
        clear ba hW7 HO HB P2 HFC
        obtain ⟨q, hq⟩ : ∃ q : Nat, q = n0 % 64 := ⟨_, rfl⟩
        have hq64 : q < 64 := by omega
        have HQ := Lib.hid (show (n0 : Int) % 64 = (q : Int) by omega)
        have hqi : (q : Int) < 64 := by omega
        clear hq
        have hst : ∀ F, F ∈ [FEq (.pointer (some ⟨w6.heap.size, 0, none⟩)), FEq (.slice (some ⟨g6, 0, none⟩) 64 c6), FEq (.slice a0 n0 c0), FEq (.int .i64 (n0 : Int)), FEq (.pointer (some ⟨w6.heap.size, 0, none⟩)), FEq (.slice (some ⟨g6, 0, none⟩) 64 c6), FEq (.int .i64 64), FEq (.int .i64 (q : Int))] → Stable [] F := by
          simp only [List.forall_mem_cons]
          exact ⟨stEq _ _, stEq _ _, stEq _ _, stEq _ _, stEq _ _, stEq _ _, stEq _ _, stEq _ _, fun _ h => by simp at h⟩
        refine wp_region_tail (by kernel_rfl) (fun i => ([[], [0], [], [2], [], [4], [4, 5], [2, 3, 4, 5, 6], [0, 1, 2, 3, 4, 5, 6, 7], [0, 1, 2, 3, 4, 5, 6, 7, 8]] : List (List Nat)).getD i []) (facts [FEq (.pointer (some ⟨w6.heap.size, 0, none⟩)), FEq (.slice (some ⟨g6, 0, none⟩) 64 c6), FEq (.slice a0 n0 c0), FEq (.int .i64 (n0 : Int)), FEq (.pointer (some ⟨w6.heap.size, 0, none⟩)), FEq (.slice (some ⟨g6, 0, none⟩) 64 c6), FEq (.int .i64 64), FEq (.int .i64 (q : Int))]) (fun m w' => Below W7.heap.size W7 w') 66 10 8 [some 40, some 41, some 42, some 43, some 44, some 45, some 46, some 47] _ rfl rfl (by decide) rfl rfl (by kernel_rfl) (by kernel_rfl) [] (by kernel_rfl) (fun g b hm v w h => by simp at hm) ?h0 (all_lt (n := 8) ?hop) ?hend
        case h0 => exact (Below.refl _ _).drew
        case hop =>
          refine ⟨⟨⟨⟨⟨⟨⟨⟨trivial, ?_⟩, ?_⟩, ?_⟩, ?_⟩, ?_⟩, ?_⟩, ?_⟩, ?_⟩
          · refine Owes.mk _ rfl rfl (fun _ _ h => by cases h) fun u m w' hm hI hR => ⟨⟨#[undef, undef, undef, undef, undef, undef, .pointer (some ⟨w6.heap.size, 0, none⟩), undef, undef, undef, undef, undef, undef, undef, undef, undef, undef, undef, undef, undef, undef, undef, undef, undef, undef, undef, undef, undef, undef, undef, undef, undef, undef, undef, undef, undef, undef, undef, undef, undef, undef, undef, undef, undef, undef, undef, undef, undef, undef, undef, undef, undef, undef, undef, undef, undef, undef, undef, undef, undef, undef, undef, undef, undef, undef, undef], []⟩, rfl, fun d hd => by cases hd; exact (by decide : 40 < 66), ?_⟩
            have k0 := keep_cell hI Z
            have HI := Lib.hid hI
            clear hI hst hR
            go_wp2
            exact ⟨rfl, _, rfl, rfl, HI.out, fun _ _ h => h⟩
          · refine Owes.mk _ rfl rfl (fun _ _ h => by cases h) fun u m w' hm hI hR => ⟨⟨#[undef, undef, undef, undef, undef, undef, undef, undef, undef, undef, undef, undef, undef, undef, undef, undef, undef, undef, undef, undef, undef, undef, undef, undef, undef, undef, undef, undef, undef, undef, undef, undef, undef, undef, undef, undef, undef, undef, undef, undef, u 0, undef, undef, undef, undef, undef, undef, undef, undef, undef, undef, undef, undef, undef, undef, undef, undef, undef, undef, undef, undef, undef, undef, undef, undef, undef], []⟩, rfl, fun d hd => by cases hd; exact (by decide : 41 < 66), ?_⟩
            have e0 : u 0 = _ := hR 0 (by decide)
            have k0 := keep_cell hI Z
            have HI := Lib.hid hI
            clear hI hst hR
            rw [e0]
            clear e0
            go_wp2
            exact ⟨rfl, _, rfl, rfl, HI.out, fun _ _ h => h⟩
          · refine Owes.mk _ rfl rfl (fun _ _ h => by cases h) fun u m w' hm hI hR => ⟨⟨#[.slice a0 n0 c0, undef, undef, undef, undef, undef, undef, undef, undef, undef, undef, undef, undef, undef, undef, undef, undef, undef, undef, undef, undef, undef, undef, undef, undef, undef, undef, undef, undef, undef, undef, undef, undef, undef, undef, undef, undef, undef, undef, undef, undef, undef, undef, undef, undef, undef, undef, undef, undef, undef, undef, undef, undef, undef, undef, undef, undef, undef, undef, undef, undef, undef, undef, undef, undef, undef], []⟩, rfl, fun d hd => by cases hd; exact (by decide : 42 < 66), ?_⟩
            have k0 := keep_cell hI Z
            have HI := Lib.hid hI
            clear hI hst hR
            go_wp2
            exact ⟨rfl, _, rfl, rfl, HI.out, fun _ _ h => h⟩
          · refine Owes.mk _ rfl rfl (fun _ _ h => by cases h) fun u m w' hm hI hR => ⟨⟨#[undef, undef, undef, undef, undef, undef, undef, undef, undef, undef, undef, undef, undef, undef, undef, undef, undef, undef, undef, undef, undef, undef, undef, undef, undef, undef, undef, undef, undef, undef, undef, undef, undef, undef, undef, undef, undef, undef, undef, undef, undef, undef, u 2, undef, undef, undef, undef, undef, undef, undef, undef, undef, undef, undef, undef, undef, undef, undef, undef, undef, undef, undef, undef, undef, undef, undef], []⟩, rfl, fun d hd => by cases hd; exact (by decide : 43 < 66), ?_⟩
            have e2 : u 2 = _ := hR 2 (by decide)
            have k0 := keep_cell hI Z
            have HI := Lib.hid hI
            clear hI hst hR
            rw [e2]
            clear e2
            go_wp2
            exact ⟨rfl, _, rfl, rfl, HI.out, fun _ _ h => h⟩
          · refine Owes.mk _ rfl rfl (fun _ _ h => by cases h) fun u m w' hm hI hR => ⟨⟨#[undef, undef, undef, undef, undef, undef, .pointer (some ⟨w6.heap.size, 0, none⟩), undef, undef, undef, undef, undef, undef, undef, undef, undef, undef, undef, undef, undef, undef, undef, undef, undef, undef, undef, undef, undef, undef, undef, undef, undef, undef, undef, undef, undef, undef, undef, undef, undef, undef, undef, undef, undef, undef, undef, undef, undef, undef, undef, undef, undef, undef, undef, undef, undef, undef, undef, undef, undef, undef, undef, undef, undef, undef, undef], []⟩, rfl, fun d hd => by cases hd; exact (by decide : 44 < 66), ?_⟩
            have k0 := keep_cell hI Z
            have HI := Lib.hid hI
            clear hI hst hR
            go_wp2
            exact ⟨rfl, _, rfl, rfl, HI.out, fun _ _ h => h⟩
          · refine Owes.mk _ rfl rfl (fun _ _ h => by cases h) fun u m w' hm hI hR => ⟨⟨#[undef, undef, undef, undef, undef, undef, undef, undef, undef, undef, undef, undef, undef, undef, undef, undef, undef, undef, undef, undef, undef, undef, undef, undef, undef, undef, undef, undef, undef, undef, undef, undef, undef, undef, undef, undef, undef, undef, undef, undef, undef, undef, undef, undef, u 4, undef, undef, undef, undef, undef, undef, undef, undef, undef, undef, undef, undef, undef, undef, undef, undef, undef, undef, undef, undef, undef], []⟩, rfl, fun d hd => by cases hd; exact (by decide : 45 < 66), ?_⟩
            have e4 : u 4 = _ := hR 4 (by decide)
            have k0 := keep_cell hI Z
            have HI := Lib.hid hI
            clear hI hst hR
            rw [e4]
            clear e4
            go_wp2
            exact ⟨rfl, _, rfl, rfl, HI.out, fun _ _ h => h⟩
          · refine Owes.mk _ rfl rfl (fun _ _ h => by cases h) fun u m w' hm hI hR => ⟨⟨#[undef, undef, undef, undef, undef, undef, undef, undef, undef, undef, undef, undef, undef, undef, undef, undef, undef, undef, undef, undef, undef, undef, undef, undef, undef, undef, undef, undef, undef, undef, undef, undef, undef, undef, undef, undef, undef, undef, undef, undef, undef, undef, undef, undef, undef, u 5, undef, undef, undef, undef, undef, undef, undef, undef, undef, undef, undef, undef, undef, undef, undef, undef, undef, undef, undef, undef], []⟩, rfl, fun d hd => by cases hd; exact (by decide : 46 < 66), ?_⟩
            have e5 : u 5 = _ := hR 5 (by decide)
            have k0 := keep_cell hI Z
            have HI := Lib.hid hI
            clear hI hst hR
            rw [e5]
            clear e5
            go_wp2
            exact ⟨rfl, _, rfl, rfl, HI.out, fun _ _ h => h⟩
          · refine Owes.mk _ rfl rfl (fun _ _ h => by cases h) fun u m w' hm hI hR => ⟨⟨#[undef, undef, undef, undef, undef, undef, undef, undef, undef, undef, undef, undef, undef, undef, undef, undef, undef, undef, undef, undef, undef, undef, undef, undef, undef, undef, undef, undef, undef, undef, undef, undef, undef, undef, undef, undef, undef, undef, undef, undef, undef, undef, undef, u 3, undef, undef, u 6, undef, undef, undef, undef, undef, undef, undef, undef, undef, undef, undef, undef, undef, undef, undef, undef, undef, undef, undef], []⟩, rfl, fun d hd => by cases hd; exact (by decide : 47 < 66), ?_⟩
            have e3 : u 3 = _ := hR 3 (by decide)
            have e6 : u 6 = _ := hR 6 (by decide)
            have k0 := keep_cell hI Z
            rw [e3, e6]
            clear e3 e6
            have HI := Lib.hid hI
            clear hI hst hR
            go_wp2
            exact ⟨rfl, _, rfl, by rw [← HQ.out]; rfl, HI.out, fun _ _ h => h⟩
        case hend =>
          intro u w' hI hR
          simp only [setAll, List.set_cons_zero, List.set_cons_succ]
          have e1 : u 1 = _ := hR 1 (by decide)
          have e7 : u 7 = _ := hR 7 (by decide)
          rw [e1, e7]
          have HI := Lib.hid hI
          have HO8 := Lib.hid (OwnR.below HO7.out hI)
          have hi : q < x.length := by rw [HL.out]; exact hq64
          have cw : w'.cell? ⟨g6, q, none⟩ = some (.int .i64 x[q]) := by
            have := OwnR.cell IntC_len HO8.out hi (j := 0) (by simp [IntC])
            simpa [IntC] using this
          have fw : w'.frozen? ⟨g6, q, none⟩ = false := OwnR.frozen HO8.out _
          have hon : IntRow 0 (w'.setCell ⟨g6, q, none⟩ (.int .i64 65536)) (.slice (some ⟨g6, 0, none⟩) 64 c6) (x.set q 65536) := by simpa using OwnR.store IntC_len HO8.out hi (j := 0) (by decide) (.int .i64 65536) 65536 rfl
          obtain ⟨f9, s9, _⟩ := intRow_reads hon
          have HN := Lib.hid s9
          have Z9 := setFar (j := q) (.int .i64 65536) hg8 (keep_cell hI Z)
          have P9 := setFar (j := q) (.int .i64 65536) hg7 (keep_cell hI P')
          have S9 := Lib.hid ((SlR.below intR_fits S'.out hI).chg intR_fits (store_chg (g := g6) (j := q) (.int .i64 65536)) HFG.out)
          have B9 := Lib.hid (((B'.out.trans (hI.mono B'.out.size)).chg []).trans (store_chg (g := g6) (j := q) (.int .i64 65536)) |>.home (fun b hb => by simp at hb; omega))
          have HBAD := Lib.hid (set_bad HBB.out.symm hi)
          obtain ⟨cy, hcy⟩ : ∃ c, c = x[q] := ⟨_, rfl⟩
          rw [← hcy] at cw
          clear hR hst e1 e7 hI HI HO7 HO8 hon s9 Z P' S' B' hcy
          go_wp2_with fail
          refine (iMemOk_any _ (x.set q 65536) f9 _ HN.out).mono ?_
          rw [HBAD.out]
          rintro e w10 ⟨rfl, b10⟩
          replace P9 := keep_cell b10 P9
          obtain ⟨f11, s11, _⟩ := (SlR.below intR_fits S9.out b10).drop 1 (by decide)
          have S11 := Lib.hid (show SlR 1 intR w10 (x.drop 1) (.slice (some ⟨b1, o1 + 1, none⟩) 63 (c - 1)) f11 from s11)
          have B10 := Lib.hid (B9.out.trans (b10.mono B9.out.size))
          clear b10 s11 S9 B9 Z9 HN cw fw
          go_wp2_with fail
          refine (iMemOk_any _ (x.drop 1) f11 _ S11.out).mono ?_
          rw [drop_bad HBB.out.symm]
          rintro e w11 ⟨rfl, b11⟩
          replace P9 := keep_cell b11 P9
          have B11 := Lib.hid (B10.out.trans (b11.mono B10.out.size))
          clear b11 S11 B10
          go_wp2
          go_ret
          exact ⟨rfl, B11.out⟩

set_option maxRecDepth 100000 in
theorem lifted (os : Os) (started : os.Started) (H : Type) (enc : TypeId × Value → H) :
    ReturnsInHanded {} Try.checked os 9 .any (Rows.fnMemOkSpec.pre6 enc Try.prog Try.f9 Rows.fnMemOkRow.domain false) (Rows.fnMemOkSpec.post enc Try.prog Try.f9 false true false false) := by
  refine returnsInHanded_of_change (C := Try.checked) own started (by kernel_rfl) Try.func9
    (ChangeSpec.witness6 (enc := enc) (C := Try.checked) false ⟨#[], #[.slice none 0 0], []⟩ 8 (by kernel_rfl) (by kernel_rfl) (by kernel_rfl) (by kernel_rfl)) ?_
  intro W base args ds gs before hval0 hW hcnd _
  have hval : ∀ (j : Nat) t v, Try.f9.params[j]? = some t → args[j]? = some v → Value.okWide Try.prog W .any base t v := hval0
  have hW' := hW
  obtain ⟨p, q, hA0, hV, rfl, hfz, hnd⟩ := hW
  have hA : DataW.TrodAll enc Try.prog W 0 (fun _ => true) true Try.f9.params.toList args.toList ds p := hA0
  rw [Try.params9] at hA hval
  obtain ⟨v0, vs0, d0, ds0, p0, q0, hargs, rfl, rfl, h0, r0⟩ := trodAll_cons hA
  obtain ⟨rfl, rfl, rfl⟩ := trodAll_nil r0
  obtain rfl : args = #[v0] := by cases args; simp_all
  obtain ⟨rfl, rfl⟩ := trodVars_none hV
  clear hA0 hval0
  simp only [List.append_nil] at hW'
  have hlt0 : ∀ x ∈ p0, x.block < W.heap.size := fun x hx => by simpa using hW'.lt x (by simp [hx])
  have hk0 := h0
  obtain ⟨ad0, len0, cap0, rfl⟩ := okWide_slice Try.underlying73 (hval 0 73 v0 rfl rfl)
  obtain ⟨fuel0, hf0⟩ := h0
  obtain ⟨x0, fp0, y0, e0, g0⟩ := (opens_slice Try.underlying73 (by kernel_rfl) (by decide) (opens_byte Try.underlying5) byteR_fits) hf0
  obtain rfl : .slice ad0 len0 cap0 = y0 := by simpa [Value.cells] using e0
  refine (walk (.slice ad0 len0 cap0) x0 fp0 W g0).mono fun e W' ⟨he, hb⟩ => ?_
  subst he
  exact ⟨_, rfl, _, _, _, [], _, [], hW', (trodAll_cons_mk (shut_bool Try.underlying4 _) trodAll_mk0), (trodAll_cons_mk (Below.trod laidOut (by kernel_rfl) (of_decide_eq_true (by kernel_rfl)) hk0 hb hlt0) trodAll_mk0), rfl, hb.frame _, fun h => by cases h⟩

theorem over : Rows.fnMemOkRow.holds Try.pinned (OpenSpec.ofChange Rows.fnMemOkSpec) :=
  OpenClaim.holds_of_wide 9 Try.f9 rfl rfl rfl rfl rfl rfl rfl ⟨rfl, rfl, rfl, rfl, rfl⟩ rfl rfl rfl rfl rfl (by kernel_rfl) Try.func9 (by kernel_rfl)
    (of_decide_eq_true (by kernel_rfl)) (by unfold Func.isWrapper; first | (rw [if_pos (by decide +kernel)]; kernel_rfl) | (rw [if_neg (by decide +kernel)]; exact ⟨rfl, rfl⟩))
    (fun os started H enc _ => lifted os started H enc)

theorem proved : Rows.FnMemOkSaid :=
  over
#print axioms proved
end Go.Proofs.Ytmmojgopeaelcaa.fnMemOk
