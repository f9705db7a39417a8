/-
  Proved: the card of the Go function laws.FnRspText: it returns true for all arguments: what came of things that differ, but for names, has texts that differ; and a text is empty just of what is not ok.
  Conditions: none beyond the card's own (its listed variables start as the program's text lays them).
-/
import Derived.Test.YtaeiddoccfaheaaDoorLift
import Derived.Test.YtaeiddoccfaheaaDoorCardF
import Derived.Test.YtaeiddoccfaheaaDoorTok
import Derived.Test.YtaeiddoccfaheaaDoorDRspOk
import Derived.Test.YtaeiddoccfaheaaDoorCr
import Derived.Test.YtaeiddoccfaheaaDoorCrInts
import Derived.Test.YtaeiddoccfaheaaDoorFacts2
import Derived.Test.YtaeiddoccfaheaaDoorRegion5
import Derived.Test.YtaeiddoccfaheaaDoorCards
import Derived.Test.YtaeiddoccfaheaaDoorTie
import Derived.OpenVars
import Derived.SevenTiedAt
namespace Go.Proofs.YtaeiddoccfaheaaDoor.fnRspText
set_option linter.unusedVariables false
set_option linter.unusedSimpArgs false
open Go.ChangeShapes Go.WideShapes Go.ChangeAt Go.RowKit

theorem word_no (c : Int) : (32 : UInt8) ∉ rspWord c := by
  unfold rspWord
  split
  · decide
  · split
    · decide
    · split <;> decide
theorem word_inj {c d : Int} (hc : 1 ≤ c ∧ c ≤ 4) (hd : 1 ≤ d ∧ d ≤ 4) (h : rspWord c = rspWord d) : c = d := by
  have h1 : c = 1 ∨ c = 2 ∨ c = 3 ∨ c = 4 := by omega
  have h2 : d = 1 ∨ d = 2 ∨ d = 3 ∨ d = 4 := by omega
  rcases h1 with rfl | rfl | rfl | rfl <;> rcases h2 with rfl | rfl | rfl | rfl <;> first | rfl | exact absurd h (by decide)
theorem text_inj {x y : Rsp} (hx : rspOk x = true) (hy : rspOk y = true) (h : rspText x = rspText y) : x.code = y.code ∧ x.data = y.data := by
  obtain ⟨x1, x2, _, x4⟩ := rspOk_facts hx
  obtain ⟨y1, y2, _, y4⟩ := rspOk_facts hy
  unfold rspText at h
  rw [if_pos hx, if_pos hy, tks_sp, tks_sp] at h
  obtain ⟨e1, e2⟩ := sp_inj _ _ _ _ (word_no _) (word_no _) (map_no _) (map_no _) h
  exact ⟨word_inj ⟨x1, x2⟩ ⟨y1, y2⟩ e1, nums_inj (fun n hn => (x4 n hn).1) (fun n hn => (y4 n hn).1) e2⟩
theorem text_same {x y : Rsp} (hx : rspOk x = true) (hy : rspOk y = true) (h : x.code = y.code) (h2 : x.data = y.data) : rspText x = rspText y := by
  unfold rspText
  rw [if_pos hx, if_pos hy, h, h2]
theorem text_ne {x : Rsp} (hx : rspOk x = true) : rspText x ≠ [] := fun h => by
  unfold rspText at h
  rw [if_pos hx] at h
  have := congrArg List.length h
  rw [List.length_append, rspWord_len] at this
  simp at this
theorem str_beq (a b : List UInt8) : ((⟨a.toArray⟩ : ByteArray) == ⟨b.toArray⟩) = decide (a = b) := by
  show (a.toArray == b.toArray) = _
  by_cases h : a = b
  · subst h; simp
  · simp [h]

theorem not_empty {s : ByteArray} (h : (s == ⟨#[]⟩) = false) : s.toList.isEmpty = false := by
  rw [beq_toListBytes] at h
  have e : (⟨#[]⟩ : ByteArray).toList = [] := by unfold ByteArray.toList; rw [ByteArray.toList.loop]; rfl
  rw [e] at h
  cases hl : s.toList with
  | nil => rw [hl] at h; cases h
  | cons x l => rfl

set_option maxRecDepth 100000 in
set_option maxHeartbeats 6400000 in
theorem walk (v0 : Value) (l0 : List Int) (fp0 : List Nat) (v1 : Value) (l1 : List Int) (fp1 : List Nat) (w : World) (g0 : ByteS w l0 v0 fp0) (g1 : ByteS w l1 v1 fp1) (hp : Pow w) (hw : Words 0 rspWords w) :
    Calls Tryd.prog 5 #[v0, v1] w fun e w' => e = .returned (.bool true) ∧ Below w.heap.size w w' := by
  obtain ⟨a0, n0, c0, rfl, _⟩ := g0.opened
  obtain ⟨a1, n1, c1, rfl, _⟩ := g1.opened
  have HP := Lib.hid hp
  have HW := Lib.hid hw
  have K0 := Lib.hid g0
  have K1 := Lib.hid g1
  clear g0 g1 hp hw
  by_cases hb : 1048576 < n0
  · go_enter Tryd.func5, Tryd.ntmps5
    go_wp2
    go_ret
    exact ⟨rfl, Below.refl _ _⟩
  · by_cases hb1 : 1048576 < n1
    · go_enter Tryd.func5, Tryd.ntmps5
      go_wp2
      go_ret
      exact ⟨rfl, Below.refl _ _⟩
    · go_enter Tryd.func5, Tryd.ntmps5
      go_wp2_with fail
      refine (drawRspText_any _ l0 fp0 w K0.out).mono ?_
      rintro e w1 ⟨x, vx, fx, rfl, sx, hx5, b1⟩
      obtain ⟨xa, xn, xc, rfl⟩ := sx.form
      obtain ⟨w2, hw2⟩ : ∃ z, z = w1.alloc (.cells #[.int .i64 x.id, .int .i64 x.code, .slice xa xn xc] 27) := ⟨_, rfl⟩
      have b2 : Below w1.heap.size w1 w2 := by rw [hw2]; exact below_alloc _ _
      have X0 : w2.cell? ⟨w1.heap.size, 0, none⟩ = some (.int .i64 x.id) := by rw [hw2]; exact alloc1_new _ _ _ 0 rfl
      have X1 : w2.cell? ⟨w1.heap.size, 1, none⟩ = some (.int .i64 x.code) := by rw [hw2]; exact alloc1_new _ _ _ 1 rfl
      have X2 : w2.cell? ⟨w1.heap.size, 2, none⟩ = some (.slice xa xn xc) := by rw [hw2]; exact alloc1_new _ _ _ 2 rfl
      have SX := Lib.hid (SlR.below intR_fits sx b2)
      have B2 := Lib.hid (b1.trans (b2.mono b1.size))
      go_upto_region 4 with fail
      rw [← hw2]
      obtain ⟨bx, hbx⟩ : ∃ z, z = w1.heap.size := ⟨_, rfl⟩
      rw [← hbx] at X0 X1 X2
      rw [← hbx]
      have HX0 := Lib.hid X0
      have HX1 := Lib.hid X1
      have HX2 := Lib.hid X2
      clear hw2 hbx sx b1 b2 hx5 X0 X1 X2
      go_wp2_with fail
      refine (drawRspText_any _ l1 fp1 w2 (SlR.below byteR_fits K1.out B2.out)).mono ?_
      rintro e w3 ⟨y, vy, fy, rfl, sy, hy5, b3⟩
      obtain ⟨ya, yn, yc, rfl⟩ := sy.form
      obtain ⟨w4, hw4⟩ : ∃ z, z = w3.alloc (.cells #[.int .i64 y.id, .int .i64 y.code, .slice ya yn yc] 27) := ⟨_, rfl⟩
      have b4 : Below w3.heap.size w3 w4 := by rw [hw4]; exact below_alloc _ _
      have Y0 : w4.cell? ⟨w3.heap.size, 0, none⟩ = some (.int .i64 y.id) := by rw [hw4]; exact alloc1_new _ _ _ 0 rfl
      have Y1 : w4.cell? ⟨w3.heap.size, 1, none⟩ = some (.int .i64 y.code) := by rw [hw4]; exact alloc1_new _ _ _ 1 rfl
      have Y2 : w4.cell? ⟨w3.heap.size, 2, none⟩ = some (.slice ya yn yc) := by rw [hw4]; exact alloc1_new _ _ _ 2 rfl
      have b24 : Below w2.heap.size w2 w4 := b3.trans (b4.mono b3.size)
      have SY := Lib.hid (SlR.below intR_fits sy b4)
      have SX4 := Lib.hid (SlR.below intR_fits SX.out b24)
      have X0 := keep_cell b24 HX0.out
      have X1 := keep_cell b24 HX1.out
      have X2 := keep_cell b24 HX2.out
      have B4 := Lib.hid (B2.out.trans (b24.mono B2.out.size))
      go_upto_region 5 with fail
      rw [← hw4]
      obtain ⟨bb, hbb⟩ : ∃ z, z = w3.heap.size := ⟨_, rfl⟩
      rw [← hbb] at Y0 Y1 Y2
      rw [← hbb]
      clear hw4 hbb sy b3 b4 b24 hy5 SX B2 HX0 HX1 HX2
      have HX0 := Lib.hid X0
      have HX1 := Lib.hid X1
      have HX2 := Lib.hid X2
      have HY0 := Lib.hid Y0
      have HY1 := Lib.hid Y1
      have HY2 := Lib.hid Y2
      go_wp2_with fail
      refine (iRspText_any x _ fx _ SX4.out (HP.out.below B4.out) (HW.out.below B4.out)).mono ?_
      rintro e w5 ⟨rfl, b5⟩
      obtain ⟨sa, hsa⟩ : ∃ s : ByteArray, s = ⟨(rspText x).toArray⟩ := ⟨_, rfl⟩
      rw [← hsa]
      have HSA := Lib.hid hsa
      have B5 := Lib.hid (B4.out.trans (b5.mono B4.out.size))
      have SX5 := Lib.hid (SlR.below intR_fits SX4.out b5)
      have SY5 := Lib.hid (SlR.below intR_fits SY.out b5)
      replace X0 := keep_cell b5 HX0.out
      replace X1 := keep_cell b5 HX1.out
      replace X2 := keep_cell b5 HX2.out
      replace Y0 := keep_cell b5 HY0.out
      replace Y1 := keep_cell b5 HY1.out
      replace Y2 := keep_cell b5 HY2.out
      clear b5 hsa SX4 SY B4 HX0 HX1 HX2 HY0 HY1 HY2
      have HX0 := Lib.hid X0
      have HX1 := Lib.hid X1
      have HX2 := Lib.hid X2
      have HY0 := Lib.hid Y0
      have HY1 := Lib.hid Y1
      have HY2 := Lib.hid Y2
      go_wp2_with fail
      refine (sRspText_any x _ fx _ SX5.out).mono ?_
      rw [← HSA.out]
      rintro e w6 ⟨rfl, b6⟩
      have B6 := Lib.hid (B5.out.trans (b6.mono B5.out.size))
      have SX6 := Lib.hid (SlR.below intR_fits SX5.out b6)
      have SY6 := Lib.hid (SlR.below intR_fits SY5.out b6)
      replace X0 := keep_cell b6 HX0.out
      replace X1 := keep_cell b6 HX1.out
      replace X2 := keep_cell b6 HX2.out
      replace Y0 := keep_cell b6 HY0.out
      replace Y1 := keep_cell b6 HY1.out
      replace Y2 := keep_cell b6 HY2.out
      clear b6 SX5 SY5 B5 HX0 HX1 HX2 HY0 HY1 HY2
      have HX0 := Lib.hid X0
      have HX1 := Lib.hid X1
      have HX2 := Lib.hid X2
      have HY0 := Lib.hid Y0
      have HY1 := Lib.hid Y1
      have HY2 := Lib.hid Y2
      go_wp2_with fail
      refine (sRspOk_any x _ fx _ SX6.out).mono ?_
      rintro e w7 ⟨rfl, b7⟩
      have B7 := Lib.hid (B6.out.trans (b7.mono B6.out.size))
      have SX7 := Lib.hid (SlR.below intR_fits SX6.out b7)
      have SY7 := Lib.hid (SlR.below intR_fits SY6.out b7)
      replace X0 := keep_cell b7 HX0.out
      replace X1 := keep_cell b7 HX1.out
      replace X2 := keep_cell b7 HX2.out
      replace Y0 := keep_cell b7 HY0.out
      replace Y1 := keep_cell b7 HY1.out
      replace Y2 := keep_cell b7 HY2.out
      clear b7 SX6 SY6 B6 HX0 HX1 HX2 HY0 HY1 HY2
      have HX0 := Lib.hid X0
      have HX1 := Lib.hid X1
      have HX2 := Lib.hid X2
      have HY0 := Lib.hid Y0
      have HY1 := Lib.hid Y1
      have HY2 := Lib.hid Y2
      cases qx : rspOk x
      · -- not ok: the text is empty
        have hse : sa = ⟨#[]⟩ := by rw [HSA.out]; unfold rspText; rw [qx]; rfl
        have QX := Lib.hid qx
        subst hse
        clear qx
        go_wp2_with fail
        refine (sRspOk_any x _ fx _ SX7.out).mono ?_
        rw [QX.out]
        rintro e w8 ⟨rfl, b8⟩
        have B8 := Lib.hid (B7.out.trans (b8.mono B7.out.size))
        clear b8 B7 SX7 SY7 X0 X1 X2 Y0 Y1 Y2
        go_wp2_with fail
        refine (crOk_any _).mono ?_
        rintro e w9 ⟨rfl, rfl⟩
        go_wp2
        go_ret
        exact ⟨rfl, B8.out⟩
      · have hne : (sa == ⟨#[]⟩) = false := by
          rw [HSA.out, show (⟨#[]⟩ : ByteArray) = ⟨([] : List UInt8).toArray⟩ from rfl, str_beq, decide_eq_false (text_ne qx)]
        have QX := Lib.hid qx
        have hne2 : sa.toList.isEmpty = false := not_empty hne
        have HNE := Lib.hid hne2
        clear qx hne hne2
        go_wp2_with fail
        refine (sRspOk_any y _ fy _ SY7.out).mono ?_
        rintro e w8 ⟨rfl, b8⟩
        have B8 := Lib.hid (B7.out.trans (b8.mono B7.out.size))
        have SX8 := Lib.hid (SlR.below intR_fits SX7.out b8)
        have SY8 := Lib.hid (SlR.below intR_fits SY7.out b8)
        replace X0 := keep_cell b8 HX0.out
        replace X1 := keep_cell b8 HX1.out
        replace X2 := keep_cell b8 HX2.out
        replace Y0 := keep_cell b8 HY0.out
        replace Y1 := keep_cell b8 HY1.out
        replace Y2 := keep_cell b8 HY2.out
        clear b8 SX7 SY7 B7 HX0 HX1 HX2 HY0 HY1 HY2
        cases qy : rspOk y
        · have hne := HNE.out
          have QY := Lib.hid qy
          clear qy
          go_wp2_with fail
          refine (sRspOk_any x _ fx _ SX8.out).mono ?_
          rw [QX.out]
          rintro e w9 ⟨rfl, b9⟩
          have B9 := Lib.hid (B8.out.trans (b9.mono B8.out.size))
          clear b9 B8 SX8 SY8 X0 X1 X2 Y0 Y1 Y2
          go_wp2_with fail
          refine (crOk_any _).mono ?_
          rintro e w10 ⟨rfl, rfl⟩
          go_wp2
          go_ret
          exact ⟨rfl, B9.out⟩
        · have QY := Lib.hid qy
          clear qy
          have HNE2 := HNE
          refine ?_
          obtain ⟨sb, hsb⟩ : ∃ s : ByteArray, s = ⟨(rspText y).toArray⟩ := ⟨_, rfl⟩
          have HSB := Lib.hid hsb
          have hne := HNE.out
          have hbeq : (sa == sb) = decide (rspText x = rspText y) := by rw [HSA.out, hsb, str_beq]
          by_cases hc : x.code = y.code
          · by_cases hd : x.data = y.data
            · have hsse : sa = sb := by rw [HSA.out, hsb, text_same QX.out QY.out hc hd]
              have HD := Lib.hid hd
              clear hsb hbeq hd
              subst hsse
              go_upto_region 10 with fail
              have hst : ∀ F, F ∈ [FEq (.string sa), FEq (.agg #[.int .i64 y.id, .int .i64 y.code, .slice ya yn yc]), FEq (.string sa), FEq (.bool true), FEq (.pointer (some ⟨bx, 1, none⟩)), FEq (.int .i64 x.code), FEq (.pointer (some ⟨bb, 1, none⟩)), FEq (.int .i64 y.code), FEq (.bool true), FEq (.bool true), FEq (.pointer (some ⟨bx, 2, none⟩)), FEq (.slice xa xn xc), FEq (.pointer (some ⟨bb, 2, none⟩)), FEq (.slice ya yn yc), FEq (.bool true), FEq (.bool true), FEq (.bool true), FEq (.bool true), FEq (.string sa), FEq (.bool true), FEq (.bool true), FEq (.bool true)] → Stable [] F := by
                simp only [List.forall_mem_cons]
                exact ⟨stEq _ _, stEq _ _, stEq _ _, stEq _ _, stEq _ _, stEq _ _, stEq _ _, stEq _ _, stEq _ _, stEq _ _, stEq _ _, stEq _ _, stEq _ _, stEq _ _, stEq _ _, stEq _ _, stEq _ _, stEq _ _, stEq _ _, stEq _ _, stEq _ _, stEq _ _, fun _ h => by simp at h⟩
              refine wp_region_tail (by kernel_rfl) (fun i => ([[], [], [1], [0, 1, 2], [], [4], [], [6], [4, 5, 6, 7], [1, 2, 4, 5, 6, 7, 8], [1, 2, 4, 5, 6, 7, 8, 9], [1, 2, 4, 5, 6, 7, 8, 9, 10], [1, 2, 4, 5, 6, 7, 8, 9], [1, 2, 4, 5, 6, 7, 8, 9, 12], [1, 2, 4, 5, 6, 7, 8, 9, 10, 11, 12, 13], [1, 2, 4, 5, 6, 7, 8, 9, 10, 11, 12, 13, 14], [0, 1, 2, 3, 4, 5, 6, 7, 8, 9, 10, 11, 12, 13, 14, 15], [0, 1, 2, 3, 4, 5, 6, 7, 8, 9, 10, 11, 12, 13, 14, 15, 16], [0, 1, 2, 3, 4, 5, 6, 7, 8, 9, 10, 11, 12, 13, 14, 15, 16, 17], [0, 1, 2, 3, 4, 5, 6, 7, 8, 9, 10, 11, 12, 13, 14, 15, 16, 17, 18], [0, 1, 2, 3, 4, 5, 6, 7, 8, 9, 10, 11, 12, 13, 14, 15, 16, 17, 18, 19], [0, 1, 2, 3, 4, 5, 6, 7, 8, 9, 10, 11, 12, 13, 14, 15, 16, 17, 18, 19, 20]] : List (List Nat)).getD i []) (facts [FEq (.string sa), FEq (.agg #[.int .i64 y.id, .int .i64 y.code, .slice ya yn yc]), FEq (.string sa), FEq (.bool true), FEq (.pointer (some ⟨bx, 1, none⟩)), FEq (.int .i64 x.code), FEq (.pointer (some ⟨bb, 1, none⟩)), FEq (.int .i64 y.code), FEq (.bool true), FEq (.bool true), FEq (.pointer (some ⟨bx, 2, none⟩)), FEq (.slice xa xn xc), FEq (.pointer (some ⟨bb, 2, none⟩)), FEq (.slice ya yn yc), FEq (.bool true), FEq (.bool true), FEq (.bool true), FEq (.bool true), FEq (.string sa), FEq (.bool true), FEq (.bool true), FEq (.bool true)]) (fun m w' => Below w8.heap.size w8 w') 64 22 22 [some 43, some 44, some 45, some 46, some 47, some 48, some 49, some 50, some 51, some 52, some 53, some 54, some 55, some 56, some 57, some 58, some 59, some 60, some 61, some 62, some 63, some 4] [] rfl rfl (by decide) rfl rfl (by kernel_rfl) (by kernel_rfl) [(17, true), (9, true)] (by kernel_rfl) (fun g b hm v w h => by simp only [List.mem_cons, List.not_mem_nil, or_false, Prod.mk.injEq] at hm; rcases hm with ⟨rfl, rfl⟩ | ⟨rfl, rfl⟩ <;> exact h) ?h0 (all_lt (n := 22) ?hop) ?hend
              case h0 => exact (Below.refl _ _).drew
              case hop =>
                refine ⟨⟨⟨⟨⟨⟨⟨⟨⟨⟨⟨⟨⟨⟨⟨⟨⟨⟨⟨⟨⟨⟨trivial, ?_⟩, ?_⟩, ?_⟩, ?_⟩, ?_⟩, ?_⟩, ?_⟩, ?_⟩, ?_⟩, ?_⟩, ?_⟩, ?_⟩, ?_⟩, ?_⟩, ?_⟩, ?_⟩, ?_⟩, ?_⟩, ?_⟩, ?_⟩, ?_⟩, ?_⟩
                · refine Owes.mk _ rfl rfl (fun _ _ h => by cases h) fun u m w' hm hI hR => ⟨⟨#[undef, undef, undef, undef, undef, undef, undef, .string sa, undef, undef, undef, undef, undef, undef, undef, undef, undef, undef, undef, undef, undef, undef, undef, undef, undef, undef, undef, undef, undef, undef, undef, undef, undef, undef, undef, undef, undef, undef, undef, undef, undef, undef, undef, undef, undef, undef, undef, undef, undef, undef, undef, undef, undef, undef, undef, undef, undef, undef, undef, undef, undef, undef, undef, undef], []⟩, rfl, fun d hd => by cases hd; exact (by decide : 43 < 64), ?_⟩
                  have k0 := keep_cell hI X0
                  have k1 := keep_cell hI X1
                  have k2 := keep_cell hI X2
                  have k3 := keep_cell hI Y0
                  have k4 := keep_cell hI Y1
                  have k5 := keep_cell hI Y2
                  have HI := Lib.hid hI
                  clear hI hst hR
                  go_wp2
                  exact ⟨rfl, _, rfl, rfl, HI.out, fun _ _ h => h⟩
                · refine Owes.mk _ rfl rfl (fun _ _ h => by cases h) fun u m w' hm hI hR => ⟨⟨#[undef, undef, undef, undef, undef, undef, .pointer (some ⟨bb, 0, none⟩), undef, undef, undef, undef, undef, undef, undef, undef, undef, undef, undef, undef, undef, undef, undef, undef, undef, undef, undef, undef, undef, undef, undef, undef, undef, undef, undef, undef, undef, undef, undef, undef, undef, undef, undef, undef, undef, undef, undef, undef, undef, undef, undef, undef, undef, undef, undef, undef, undef, undef, undef, undef, undef, undef, undef, undef, undef], []⟩, rfl, fun d hd => by cases hd; exact (by decide : 44 < 64), ?_⟩
                  have k0 := keep_cell hI X0
                  have k1 := keep_cell hI X1
                  have k2 := keep_cell hI X2
                  have k3 := keep_cell hI Y0
                  have k4 := keep_cell hI Y1
                  have k5 := keep_cell hI Y2
                  have HI := Lib.hid hI
                  clear hI hst hR
                  go_wp2
                  exact ⟨rfl, _, rfl, rfl, HI.out, fun _ _ h => h⟩
                · refine Owes.mk _ rfl rfl (fun _ _ h => by cases h) fun u m w' hm hI hR => ⟨⟨#[undef, undef, undef, undef, undef, undef, undef, undef, undef, undef, undef, undef, undef, undef, undef, undef, undef, undef, undef, undef, undef, undef, undef, undef, undef, undef, undef, undef, undef, undef, undef, undef, undef, undef, undef, undef, undef, undef, undef, undef, undef, undef, undef, undef, u 1, undef, undef, undef, undef, undef, undef, undef, undef, undef, undef, undef, undef, undef, undef, undef, undef, undef, undef, undef], []⟩, rfl, fun d hd => by cases hd; exact (by decide : 45 < 64), ?_⟩
                  have e1 : u 1 = _ := hR 1 (by decide)
                  have k0 := keep_cell hI X0
                  have k1 := keep_cell hI X1
                  have k2 := keep_cell hI X2
                  have k3 := keep_cell hI Y0
                  have k4 := keep_cell hI Y1
                  have k5 := keep_cell hI Y2
                  rw [e1]
                  clear e1
                  have HSy := Lib.hid (SlR.below intR_fits SY8.out hI)
                  have HPw := Lib.hid (HP.out.below (B8.out.trans (hI.mono B8.out.size)))
                  have HWw := Lib.hid (HW.out.below (B8.out.trans (hI.mono B8.out.size)))
                  have HI := Lib.hid hI
                  have HSt := Lib.hid hst
                  clear hI hst hR
                  go_wp2_with fail
                  refine (iRspText_any y _ fy _ HSy.out HPw.out HWw.out).mono ?_
                  rw [← HSB.out]
                  rintro e w9 ⟨rfl, b9⟩
                  have HS := Lib.hid (facts_stable HSt.out (b9.chg []))
                  have HI9 := Lib.hid (HI.out.trans (b9.mono HI.out.size))
                  clear b9
                  go_wp2
                  exact ⟨rfl, _, rfl, rfl, HI9.out, HS.out⟩
                · refine Owes.mk _ rfl rfl (fun _ _ h => by cases h) fun u m w' hm hI hR => ⟨⟨#[undef, undef, undef, undef, undef, undef, undef, undef, undef, undef, undef, undef, undef, undef, undef, undef, undef, undef, undef, undef, undef, undef, undef, undef, undef, undef, undef, undef, undef, undef, undef, undef, undef, undef, undef, undef, undef, undef, undef, undef, undef, undef, undef, u 0, undef, u 2, undef, undef, undef, undef, undef, undef, undef, undef, undef, undef, undef, undef, undef, undef, undef, undef, undef, undef], []⟩, rfl, fun d hd => by cases hd; exact (by decide : 46 < 64), ?_⟩
                  have e0 : u 0 = _ := hR 0 (by decide)
                  have e2 : u 2 = _ := hR 2 (by decide)
                  have k0 := keep_cell hI X0
                  have k1 := keep_cell hI X1
                  have k2 := keep_cell hI X2
                  have k3 := keep_cell hI Y0
                  have k4 := keep_cell hI Y1
                  have k5 := keep_cell hI Y2
                  have HI := Lib.hid hI
                  clear hI hst hR
                  rw [e0, e2]
                  clear e0 e2
                  go_wp2
                  exact ⟨rfl, _, rfl, rfl, HI.out, fun _ _ h => h⟩
                · refine Owes.mk _ rfl rfl (fun _ _ h => by cases h) fun u m w' hm hI hR => ⟨⟨#[undef, undef, undef, undef, undef, .pointer (some ⟨bx, 0, none⟩), undef, undef, undef, undef, undef, undef, undef, undef, undef, undef, undef, undef, undef, undef, undef, undef, undef, undef, undef, undef, undef, undef, undef, undef, undef, undef, undef, undef, undef, undef, undef, undef, undef, undef, undef, undef, undef, undef, undef, undef, undef, undef, undef, undef, undef, undef, undef, undef, undef, undef, undef, undef, undef, undef, undef, undef, undef, undef], []⟩, rfl, fun d hd => by cases hd; exact (by decide : 47 < 64), ?_⟩
                  have k0 := keep_cell hI X0
                  have k1 := keep_cell hI X1
                  have k2 := keep_cell hI X2
                  have k3 := keep_cell hI Y0
                  have k4 := keep_cell hI Y1
                  have k5 := keep_cell hI Y2
                  have HI := Lib.hid hI
                  clear hI hst hR
                  go_wp2
                  exact ⟨rfl, _, rfl, rfl, HI.out, fun _ _ h => h⟩
                · refine Owes.mk _ rfl rfl (fun _ _ h => by cases h) fun u m w' hm hI hR => ⟨⟨#[undef, undef, undef, undef, undef, undef, undef, undef, undef, undef, undef, undef, undef, undef, undef, undef, undef, undef, undef, undef, undef, undef, undef, undef, undef, undef, undef, undef, undef, undef, undef, undef, undef, undef, undef, undef, undef, undef, undef, undef, undef, undef, undef, undef, undef, undef, undef, u 4, undef, undef, undef, undef, undef, undef, undef, undef, undef, undef, undef, undef, undef, undef, undef, undef], []⟩, rfl, fun d hd => by cases hd; exact (by decide : 48 < 64), ?_⟩
                  have e4 : u 4 = _ := hR 4 (by decide)
                  have k0 := keep_cell hI X0
                  have k1 := keep_cell hI X1
                  have k2 := keep_cell hI X2
                  have k3 := keep_cell hI Y0
                  have k4 := keep_cell hI Y1
                  have k5 := keep_cell hI Y2
                  have HI := Lib.hid hI
                  clear hI hst hR
                  rw [e4]
                  clear e4
                  go_wp2
                  exact ⟨rfl, _, rfl, rfl, HI.out, fun _ _ h => h⟩
                · refine Owes.mk _ rfl rfl (fun _ _ h => by cases h) fun u m w' hm hI hR => ⟨⟨#[undef, undef, undef, undef, undef, undef, .pointer (some ⟨bb, 0, none⟩), undef, undef, undef, undef, undef, undef, undef, undef, undef, undef, undef, undef, undef, undef, undef, undef, undef, undef, undef, undef, undef, undef, undef, undef, undef, undef, undef, undef, undef, undef, undef, undef, undef, undef, undef, undef, undef, undef, undef, undef, undef, undef, undef, undef, undef, undef, undef, undef, undef, undef, undef, undef, undef, undef, undef, undef, undef], []⟩, rfl, fun d hd => by cases hd; exact (by decide : 49 < 64), ?_⟩
                  have k0 := keep_cell hI X0
                  have k1 := keep_cell hI X1
                  have k2 := keep_cell hI X2
                  have k3 := keep_cell hI Y0
                  have k4 := keep_cell hI Y1
                  have k5 := keep_cell hI Y2
                  have HI := Lib.hid hI
                  clear hI hst hR
                  go_wp2
                  exact ⟨rfl, _, rfl, rfl, HI.out, fun _ _ h => h⟩
                · refine Owes.mk _ rfl rfl (fun _ _ h => by cases h) fun u m w' hm hI hR => ⟨⟨#[undef, undef, undef, undef, undef, undef, undef, undef, undef, undef, undef, undef, undef, undef, undef, undef, undef, undef, undef, undef, undef, undef, undef, undef, undef, undef, undef, undef, undef, undef, undef, undef, undef, undef, undef, undef, undef, undef, undef, undef, undef, undef, undef, undef, undef, undef, undef, undef, undef, u 6, undef, undef, undef, undef, undef, undef, undef, undef, undef, undef, undef, undef, undef, undef], []⟩, rfl, fun d hd => by cases hd; exact (by decide : 50 < 64), ?_⟩
                  have e6 : u 6 = _ := hR 6 (by decide)
                  have k0 := keep_cell hI X0
                  have k1 := keep_cell hI X1
                  have k2 := keep_cell hI X2
                  have k3 := keep_cell hI Y0
                  have k4 := keep_cell hI Y1
                  have k5 := keep_cell hI Y2
                  have HI := Lib.hid hI
                  clear hI hst hR
                  rw [e6]
                  clear e6
                  go_wp2
                  exact ⟨rfl, _, rfl, rfl, HI.out, fun _ _ h => h⟩
                · refine Owes.mk _ rfl rfl (fun _ _ h => by cases h) fun u m w' hm hI hR => ⟨⟨#[undef, undef, undef, undef, undef, undef, undef, undef, undef, undef, undef, undef, undef, undef, undef, undef, undef, undef, undef, undef, undef, undef, undef, undef, undef, undef, undef, undef, undef, undef, undef, undef, undef, undef, undef, undef, undef, undef, undef, undef, undef, undef, undef, undef, undef, undef, undef, undef, u 5, undef, u 7, undef, undef, undef, undef, undef, undef, undef, undef, undef, undef, undef, undef, undef], []⟩, rfl, fun d hd => by cases hd; exact (by decide : 51 < 64), ?_⟩
                  have e5 : u 5 = _ := hR 5 (by decide)
                  have e7 : u 7 = _ := hR 7 (by decide)
                  have k0 := keep_cell hI X0
                  have k1 := keep_cell hI X1
                  have k2 := keep_cell hI X2
                  have k3 := keep_cell hI Y0
                  have k4 := keep_cell hI Y1
                  have k5 := keep_cell hI Y2
                  have HI := Lib.hid hI
                  clear hI hst hR
                  rw [e5, e7]
                  clear e5 e7
                  go_wp2
                  exact ⟨rfl, _, rfl, rfl, HI.out, fun _ _ h => h⟩
                · refine Owes.mk _ rfl rfl (fun _ _ h => by cases h) fun u m w' hm hI hR => ⟨⟨#[undef, undef, undef, undef, undef, undef, undef, undef, undef, undef, undef, undef, undef, undef, undef, undef, undef, undef, undef, undef, undef, undef, undef, undef, undef, undef, undef, undef, undef, undef, undef, undef, undef, undef, undef, undef, undef, undef, undef, undef, undef, undef, undef, undef, undef, undef, undef, undef, undef, undef, undef, u 8, undef, undef, undef, undef, undef, undef, undef, undef, undef, undef, undef, undef], []⟩, rfl, fun d hd => by cases hd; exact (by decide : 52 < 64), ?_⟩
                  have e8 : u 8 = _ := hR 8 (by decide)
                  have k0 := keep_cell hI X0
                  have k1 := keep_cell hI X1
                  have k2 := keep_cell hI X2
                  have k3 := keep_cell hI Y0
                  have k4 := keep_cell hI Y1
                  have k5 := keep_cell hI Y2
                  have HI := Lib.hid hI
                  clear hI hst hR
                  rw [e8]
                  clear e8
                  go_wp2
                  exact ⟨rfl, _, rfl, rfl, HI.out, fun _ _ h => h⟩
                · refine Owes.mkG _ _ rfl rfl (fun _ _ h => by cases h) fun u m w' hm hI hR => ⟨⟨#[undef, undef, undef, undef, undef, .pointer (some ⟨bx, 0, none⟩), undef, undef, undef, undef, undef, undef, undef, undef, undef, undef, undef, undef, undef, undef, undef, undef, undef, undef, undef, undef, undef, undef, undef, undef, undef, undef, undef, undef, undef, undef, undef, undef, undef, undef, undef, undef, undef, undef, undef, undef, undef, undef, undef, undef, undef, undef, undef, undef, undef, undef, undef, undef, undef, undef, undef, undef, undef, undef], []⟩, rfl, fun d hd => by cases hd; exact (by decide : 53 < 64), ?_⟩
                  have k0 := keep_cell hI X0
                  have k1 := keep_cell hI X1
                  have k2 := keep_cell hI X2
                  have k3 := keep_cell hI Y0
                  have k4 := keep_cell hI Y1
                  have k5 := keep_cell hI Y2
                  have HI := Lib.hid hI
                  clear hI hst hR
                  go_wp2
                  exact ⟨rfl, _, rfl, rfl, HI.out, fun _ _ h => h⟩
                · refine Owes.mkG _ _ rfl rfl (fun _ _ h => by cases h) fun u m w' hm hI hR => ⟨⟨#[undef, undef, undef, undef, undef, undef, undef, undef, undef, undef, undef, undef, undef, undef, undef, undef, undef, undef, undef, undef, undef, undef, undef, undef, undef, undef, undef, undef, undef, undef, undef, undef, undef, undef, undef, undef, undef, undef, undef, undef, undef, undef, undef, undef, undef, undef, undef, undef, undef, undef, undef, undef, undef, u 10, undef, undef, undef, undef, undef, undef, undef, undef, undef, undef], []⟩, rfl, fun d hd => by cases hd; exact (by decide : 54 < 64), ?_⟩
                  have e10 : u 10 = _ := hR 10 (by decide)
                  have k0 := keep_cell hI X0
                  have k1 := keep_cell hI X1
                  have k2 := keep_cell hI X2
                  have k3 := keep_cell hI Y0
                  have k4 := keep_cell hI Y1
                  have k5 := keep_cell hI Y2
                  have HI := Lib.hid hI
                  clear hI hst hR
                  rw [e10]
                  clear e10
                  go_wp2
                  exact ⟨rfl, _, rfl, rfl, HI.out, fun _ _ h => h⟩
                · refine Owes.mkG _ _ rfl rfl (fun _ _ h => by cases h) fun u m w' hm hI hR => ⟨⟨#[undef, undef, undef, undef, undef, undef, .pointer (some ⟨bb, 0, none⟩), undef, undef, undef, undef, undef, undef, undef, undef, undef, undef, undef, undef, undef, undef, undef, undef, undef, undef, undef, undef, undef, undef, undef, undef, undef, undef, undef, undef, undef, undef, undef, undef, undef, undef, undef, undef, undef, undef, undef, undef, undef, undef, undef, undef, undef, undef, undef, undef, undef, undef, undef, undef, undef, undef, undef, undef, undef], []⟩, rfl, fun d hd => by cases hd; exact (by decide : 55 < 64), ?_⟩
                  have k0 := keep_cell hI X0
                  have k1 := keep_cell hI X1
                  have k2 := keep_cell hI X2
                  have k3 := keep_cell hI Y0
                  have k4 := keep_cell hI Y1
                  have k5 := keep_cell hI Y2
                  have HI := Lib.hid hI
                  clear hI hst hR
                  go_wp2
                  exact ⟨rfl, _, rfl, rfl, HI.out, fun _ _ h => h⟩
                · refine Owes.mkG _ _ rfl rfl (fun _ _ h => by cases h) fun u m w' hm hI hR => ⟨⟨#[undef, undef, undef, undef, undef, undef, undef, undef, undef, undef, undef, undef, undef, undef, undef, undef, undef, undef, undef, undef, undef, undef, undef, undef, undef, undef, undef, undef, undef, undef, undef, undef, undef, undef, undef, undef, undef, undef, undef, undef, undef, undef, undef, undef, undef, undef, undef, undef, undef, undef, undef, undef, undef, undef, undef, u 12, undef, undef, undef, undef, undef, undef, undef, undef], []⟩, rfl, fun d hd => by cases hd; exact (by decide : 56 < 64), ?_⟩
                  have e12 : u 12 = _ := hR 12 (by decide)
                  have k0 := keep_cell hI X0
                  have k1 := keep_cell hI X1
                  have k2 := keep_cell hI X2
                  have k3 := keep_cell hI Y0
                  have k4 := keep_cell hI Y1
                  have k5 := keep_cell hI Y2
                  have HI := Lib.hid hI
                  clear hI hst hR
                  rw [e12]
                  clear e12
                  go_wp2
                  exact ⟨rfl, _, rfl, rfl, HI.out, fun _ _ h => h⟩
                · refine Owes.mkG _ _ rfl rfl (fun _ _ h => by cases h) fun u m w' hm hI hR => ⟨⟨#[undef, undef, undef, undef, undef, undef, undef, undef, undef, undef, undef, undef, undef, undef, undef, undef, undef, undef, undef, undef, undef, undef, undef, undef, undef, undef, undef, undef, undef, undef, undef, undef, undef, undef, undef, undef, undef, undef, undef, undef, undef, undef, undef, undef, undef, undef, undef, undef, undef, undef, undef, undef, undef, undef, u 11, undef, u 13, undef, undef, undef, undef, undef, undef, undef], []⟩, rfl, fun d hd => by cases hd; exact (by decide : 57 < 64), ?_⟩
                  have e11 : u 11 = _ := hR 11 (by decide)
                  have e13 : u 13 = _ := hR 13 (by decide)
                  have k0 := keep_cell hI X0
                  have k1 := keep_cell hI X1
                  have k2 := keep_cell hI X2
                  have k3 := keep_cell hI Y0
                  have k4 := keep_cell hI Y1
                  have k5 := keep_cell hI Y2
                  rw [e11, e13]
                  clear e11 e13
                  have HSx := Lib.hid (SlR.below intR_fits SX8.out hI)
                  have HSy := Lib.hid (SlR.below intR_fits SY8.out hI)
                  have HI := Lib.hid hI
                  have HSt := Lib.hid hst
                  clear hI hst hR
                  go_wp2_with fail
                  refine (crInts_any _ _ _ _ fx fy _ HSx.out HSy.out).mono ?_
                  rw [decide_eq_true HD.out]
                  rintro e w9 ⟨rfl, nd, hw9⟩
                  have b9 : Below w'.heap.size w' w9 := by rw [hw9]; exact below_drewN (Below.refl _ _) nd
                  have HS := Lib.hid (facts_stable HSt.out (b9.chg []))
                  have HI9 := Lib.hid (HI.out.trans (b9.mono HI.out.size))
                  clear b9 hw9
                  go_wp2
                  exact ⟨rfl, _, rfl, rfl, HI9.out, HS.out⟩
                · refine Owes.mk _ rfl rfl (fun _ _ h => by cases h) fun u m w' hm hI hR => ⟨⟨#[undef, undef, undef, undef, undef, undef, undef, undef, undef, undef, undef, undef, undef, undef, undef, undef, undef, undef, undef, undef, undef, undef, undef, undef, undef, undef, undef, undef, undef, undef, undef, undef, undef, undef, undef, undef, undef, undef, undef, undef, undef, undef, undef, undef, undef, undef, undef, undef, undef, undef, undef, undef, u 9, undef, undef, undef, undef, u 14, undef, undef, undef, undef, undef, undef], []⟩, rfl, fun d hd => by cases hd; exact (by decide : 58 < 64), ?_⟩
                  have e9 : u 9 = _ := hR 9 (by decide)
                  have e14 : u 14 = _ := hR 14 (by decide)
                  have k0 := keep_cell hI X0
                  have k1 := keep_cell hI X1
                  have k2 := keep_cell hI X2
                  have k3 := keep_cell hI Y0
                  have k4 := keep_cell hI Y1
                  have k5 := keep_cell hI Y2
                  have HI := Lib.hid hI
                  clear hI hst hR
                  rw [e9, e14]
                  clear e9 e14
                  go_wp2
                  exact ⟨rfl, _, rfl, rfl, HI.out, fun _ _ h => h⟩
                · refine Owes.mk _ rfl rfl (fun _ _ h => by cases h) fun u m w' hm hI hR => ⟨⟨#[undef, undef, undef, undef, undef, undef, undef, undef, undef, undef, undef, undef, undef, undef, undef, undef, undef, undef, undef, undef, undef, undef, undef, undef, undef, undef, undef, undef, undef, undef, undef, undef, undef, undef, undef, undef, undef, undef, undef, undef, undef, undef, undef, undef, undef, undef, u 3, undef, undef, undef, undef, undef, undef, undef, undef, undef, undef, undef, u 15, undef, undef, undef, undef, undef], []⟩, rfl, fun d hd => by cases hd; exact (by decide : 59 < 64), ?_⟩
                  have e3 : u 3 = _ := hR 3 (by decide)
                  have e15 : u 15 = _ := hR 15 (by decide)
                  have k0 := keep_cell hI X0
                  have k1 := keep_cell hI X1
                  have k2 := keep_cell hI X2
                  have k3 := keep_cell hI Y0
                  have k4 := keep_cell hI Y1
                  have k5 := keep_cell hI Y2
                  have HI := Lib.hid hI
                  clear hI hst hR
                  rw [e3, e15]
                  clear e3 e15
                  go_wp2
                  exact ⟨rfl, _, rfl, rfl, HI.out, fun _ _ h => h⟩
                · refine Owes.mk _ rfl rfl (fun _ _ h => by cases h) fun u m w' hm hI hR => ⟨⟨#[undef, undef, undef, undef, undef, undef, undef, undef, undef, undef, undef, undef, undef, undef, undef, undef, undef, undef, undef, undef, undef, undef, undef, undef, undef, undef, undef, undef, undef, undef, undef, undef, undef, undef, undef, undef, undef, undef, undef, undef, undef, undef, undef, undef, undef, undef, undef, undef, undef, undef, undef, undef, undef, undef, undef, undef, undef, undef, undef, u 16, undef, undef, undef, undef], []⟩, rfl, fun d hd => by cases hd; exact (by decide : 60 < 64), ?_⟩
                  have e16 : u 16 = _ := hR 16 (by decide)
                  have k0 := keep_cell hI X0
                  have k1 := keep_cell hI X1
                  have k2 := keep_cell hI X2
                  have k3 := keep_cell hI Y0
                  have k4 := keep_cell hI Y1
                  have k5 := keep_cell hI Y2
                  have HI := Lib.hid hI
                  clear hI hst hR
                  rw [e16]
                  clear e16
                  go_wp2
                  exact ⟨rfl, _, rfl, rfl, HI.out, fun _ _ h => h⟩
                · refine Owes.mkG _ _ rfl rfl (fun _ _ h => by cases h) fun u m w' hm hI hR => ⟨⟨#[undef, undef, undef, undef, undef, undef, undef, .string sa, undef, undef, undef, undef, undef, undef, undef, undef, undef, undef, undef, undef, undef, undef, undef, undef, undef, undef, undef, undef, undef, undef, undef, undef, undef, undef, undef, undef, undef, undef, undef, undef, undef, undef, undef, undef, undef, undef, undef, undef, undef, undef, undef, undef, undef, undef, undef, undef, undef, undef, undef, undef, undef, undef, undef, undef], []⟩, rfl, fun d hd => by cases hd; exact (by decide : 61 < 64), ?_⟩
                  have k0 := keep_cell hI X0
                  have k1 := keep_cell hI X1
                  have k2 := keep_cell hI X2
                  have k3 := keep_cell hI Y0
                  have k4 := keep_cell hI Y1
                  have k5 := keep_cell hI Y2
                  have HI := Lib.hid hI
                  clear hI hst hR
                  go_wp2
                  exact ⟨rfl, _, rfl, rfl, HI.out, fun _ _ h => h⟩
                · refine Owes.mkG _ _ rfl rfl (fun _ _ h => by cases h) fun u m w' hm hI hR => ⟨⟨#[undef, undef, undef, undef, undef, undef, undef, undef, undef, undef, undef, undef, undef, undef, undef, undef, undef, undef, undef, undef, undef, undef, undef, undef, undef, undef, undef, undef, undef, undef, undef, undef, undef, undef, undef, undef, undef, undef, undef, undef, undef, undef, undef, undef, undef, undef, undef, undef, undef, undef, undef, undef, undef, undef, undef, undef, undef, undef, undef, undef, undef, u 18, undef, undef], []⟩, rfl, fun d hd => by cases hd; exact (by decide : 62 < 64), ?_⟩
                  have e18 : u 18 = _ := hR 18 (by decide)
                  have k0 := keep_cell hI X0
                  have k1 := keep_cell hI X1
                  have k2 := keep_cell hI X2
                  have k3 := keep_cell hI Y0
                  have k4 := keep_cell hI Y1
                  have k5 := keep_cell hI Y2
                  have HI := Lib.hid hI
                  clear hI hst hR
                  rw [e18]
                  clear e18
                  go_wp2
                  exact ⟨rfl, _, rfl, rfl, HI.out, fun _ _ h => h⟩
                · refine Owes.mk _ rfl rfl (fun _ _ h => by cases h) fun u m w' hm hI hR => ⟨⟨#[undef, undef, undef, undef, undef, undef, undef, undef, undef, undef, undef, undef, undef, undef, undef, undef, undef, undef, undef, undef, undef, undef, undef, undef, undef, undef, undef, undef, undef, undef, undef, undef, undef, undef, undef, undef, undef, undef, undef, undef, undef, undef, undef, undef, undef, undef, undef, undef, undef, undef, undef, undef, undef, undef, undef, undef, undef, undef, undef, undef, u 17, undef, u 19, undef], []⟩, rfl, fun d hd => by cases hd; exact (by decide : 63 < 64), ?_⟩
                  have e17 : u 17 = _ := hR 17 (by decide)
                  have e19 : u 19 = _ := hR 19 (by decide)
                  have k0 := keep_cell hI X0
                  have k1 := keep_cell hI X1
                  have k2 := keep_cell hI X2
                  have k3 := keep_cell hI Y0
                  have k4 := keep_cell hI Y1
                  have k5 := keep_cell hI Y2
                  have HI := Lib.hid hI
                  clear hI hst hR
                  rw [e17, e19]
                  clear e17 e19
                  go_wp2
                  exact ⟨rfl, _, rfl, rfl, HI.out, fun _ _ h => h⟩
                · refine Owes.mk _ rfl rfl (fun _ _ h => by cases h) fun u m w' hm hI hR => ⟨⟨#[undef, undef, undef, undef, undef, undef, undef, undef, undef, undef, undef, undef, undef, undef, undef, undef, undef, undef, undef, undef, undef, undef, undef, undef, undef, undef, undef, undef, undef, undef, undef, undef, undef, undef, undef, undef, undef, undef, undef, undef, undef, undef, undef, undef, undef, undef, undef, undef, undef, undef, undef, undef, undef, undef, undef, undef, undef, undef, undef, undef, undef, undef, undef, u 20], []⟩, rfl, fun d hd => by cases hd; exact (by decide : 4 < 64), ?_⟩
                  have e20 : u 20 = _ := hR 20 (by decide)
                  have k0 := keep_cell hI X0
                  have k1 := keep_cell hI X1
                  have k2 := keep_cell hI X2
                  have k3 := keep_cell hI Y0
                  have k4 := keep_cell hI Y1
                  have k5 := keep_cell hI Y2
                  have HI := Lib.hid hI
                  clear hI hst hR
                  rw [e20]
                  clear e20
                  go_wp2
                  exact ⟨rfl, _, rfl, rfl, HI.out, fun _ _ h => h⟩
              case hend =>
                intro u w' hI hR
                simp only [setAll, List.set_cons_zero, List.set_cons_succ]
                unfold wpList
                have e21 : u 21 = _ := hR 21 (by decide)
                rw [e21]
                have HBw := Lib.hid (B8.out.trans (hI.mono B8.out.size))
                clear hR hI hst e21
                go_wp2
                go_ret
                exact ⟨rfl, HBw.out⟩
            · have hss : (sa == sb) = false := by rw [hbeq, decide_eq_false (fun e => hd (text_inj QX.out QY.out e).2)]
              have hsse : (sa.toList == sb.toList) = false := by rw [← beq_toListBytes]; exact hss
              have HD := Lib.hid hd
              clear hsb hbeq hd hss
              go_upto_region 10 with fail
              have hst : ∀ F, F ∈ [FEq (.string sa), FEq (.agg #[.int .i64 y.id, .int .i64 y.code, .slice ya yn yc]), FEq (.string sb), FEq (.bool false), FEq (.pointer (some ⟨bx, 1, none⟩)), FEq (.int .i64 x.code), FEq (.pointer (some ⟨bb, 1, none⟩)), FEq (.int .i64 y.code), FEq (.bool true), FEq (.bool true), FEq (.pointer (some ⟨bx, 2, none⟩)), FEq (.slice xa xn xc), FEq (.pointer (some ⟨bb, 2, none⟩)), FEq (.slice ya yn yc), FEq (.bool false), FEq (.bool false), FEq (.bool true), FEq (.bool true), FEq (.string sa), FEq (.bool true), FEq (.bool true), FEq (.bool true)] → Stable [] F := by
                simp only [List.forall_mem_cons]
                exact ⟨stEq _ _, stEq _ _, stEq _ _, stEq _ _, stEq _ _, stEq _ _, stEq _ _, stEq _ _, stEq _ _, stEq _ _, stEq _ _, stEq _ _, stEq _ _, stEq _ _, stEq _ _, stEq _ _, stEq _ _, stEq _ _, stEq _ _, stEq _ _, stEq _ _, stEq _ _, fun _ h => by simp at h⟩
              refine wp_region_tail (by kernel_rfl) (fun i => ([[], [], [1], [0, 1, 2], [], [4], [], [6], [4, 5, 6, 7], [1, 2, 4, 5, 6, 7, 8], [1, 2, 4, 5, 6, 7, 8, 9], [1, 2, 4, 5, 6, 7, 8, 9, 10], [1, 2, 4, 5, 6, 7, 8, 9], [1, 2, 4, 5, 6, 7, 8, 9, 12], [1, 2, 4, 5, 6, 7, 8, 9, 10, 11, 12, 13], [1, 2, 4, 5, 6, 7, 8, 9, 10, 11, 12, 13, 14], [0, 1, 2, 3, 4, 5, 6, 7, 8, 9, 10, 11, 12, 13, 14, 15], [0, 1, 2, 3, 4, 5, 6, 7, 8, 9, 10, 11, 12, 13, 14, 15, 16], [0, 1, 2, 3, 4, 5, 6, 7, 8, 9, 10, 11, 12, 13, 14, 15, 16, 17], [0, 1, 2, 3, 4, 5, 6, 7, 8, 9, 10, 11, 12, 13, 14, 15, 16, 17, 18], [0, 1, 2, 3, 4, 5, 6, 7, 8, 9, 10, 11, 12, 13, 14, 15, 16, 17, 18, 19], [0, 1, 2, 3, 4, 5, 6, 7, 8, 9, 10, 11, 12, 13, 14, 15, 16, 17, 18, 19, 20]] : List (List Nat)).getD i []) (facts [FEq (.string sa), FEq (.agg #[.int .i64 y.id, .int .i64 y.code, .slice ya yn yc]), FEq (.string sb), FEq (.bool false), FEq (.pointer (some ⟨bx, 1, none⟩)), FEq (.int .i64 x.code), FEq (.pointer (some ⟨bb, 1, none⟩)), FEq (.int .i64 y.code), FEq (.bool true), FEq (.bool true), FEq (.pointer (some ⟨bx, 2, none⟩)), FEq (.slice xa xn xc), FEq (.pointer (some ⟨bb, 2, none⟩)), FEq (.slice ya yn yc), FEq (.bool false), FEq (.bool false), FEq (.bool true), FEq (.bool true), FEq (.string sa), FEq (.bool true), FEq (.bool true), FEq (.bool true)]) (fun m w' => Below w8.heap.size w8 w') 64 22 22 [some 43, some 44, some 45, some 46, some 47, some 48, some 49, some 50, some 51, some 52, some 53, some 54, some 55, some 56, some 57, some 58, some 59, some 60, some 61, some 62, some 63, some 4] [] rfl rfl (by decide) rfl rfl (by kernel_rfl) (by kernel_rfl) [(17, true), (9, true)] (by kernel_rfl) (fun g b hm v w h => by simp only [List.mem_cons, List.not_mem_nil, or_false, Prod.mk.injEq] at hm; rcases hm with ⟨rfl, rfl⟩ | ⟨rfl, rfl⟩ <;> exact h) ?h0 (all_lt (n := 22) ?hop) ?hend
              case h0 => exact (Below.refl _ _).drew
              case hop =>
                refine ⟨⟨⟨⟨⟨⟨⟨⟨⟨⟨⟨⟨⟨⟨⟨⟨⟨⟨⟨⟨⟨⟨trivial, ?_⟩, ?_⟩, ?_⟩, ?_⟩, ?_⟩, ?_⟩, ?_⟩, ?_⟩, ?_⟩, ?_⟩, ?_⟩, ?_⟩, ?_⟩, ?_⟩, ?_⟩, ?_⟩, ?_⟩, ?_⟩, ?_⟩, ?_⟩, ?_⟩, ?_⟩
                · refine Owes.mk _ rfl rfl (fun _ _ h => by cases h) fun u m w' hm hI hR => ⟨⟨#[undef, undef, undef, undef, undef, undef, undef, .string sa, undef, undef, undef, undef, undef, undef, undef, undef, undef, undef, undef, undef, undef, undef, undef, undef, undef, undef, undef, undef, undef, undef, undef, undef, undef, undef, undef, undef, undef, undef, undef, undef, undef, undef, undef, undef, undef, undef, undef, undef, undef, undef, undef, undef, undef, undef, undef, undef, undef, undef, undef, undef, undef, undef, undef, undef], []⟩, rfl, fun d hd => by cases hd; exact (by decide : 43 < 64), ?_⟩
                  have k0 := keep_cell hI X0
                  have k1 := keep_cell hI X1
                  have k2 := keep_cell hI X2
                  have k3 := keep_cell hI Y0
                  have k4 := keep_cell hI Y1
                  have k5 := keep_cell hI Y2
                  have HI := Lib.hid hI
                  clear hI hst hR
                  go_wp2
                  exact ⟨rfl, _, rfl, rfl, HI.out, fun _ _ h => h⟩
                · refine Owes.mk _ rfl rfl (fun _ _ h => by cases h) fun u m w' hm hI hR => ⟨⟨#[undef, undef, undef, undef, undef, undef, .pointer (some ⟨bb, 0, none⟩), undef, undef, undef, undef, undef, undef, undef, undef, undef, undef, undef, undef, undef, undef, undef, undef, undef, undef, undef, undef, undef, undef, undef, undef, undef, undef, undef, undef, undef, undef, undef, undef, undef, undef, undef, undef, undef, undef, undef, undef, undef, undef, undef, undef, undef, undef, undef, undef, undef, undef, undef, undef, undef, undef, undef, undef, undef], []⟩, rfl, fun d hd => by cases hd; exact (by decide : 44 < 64), ?_⟩
                  have k0 := keep_cell hI X0
                  have k1 := keep_cell hI X1
                  have k2 := keep_cell hI X2
                  have k3 := keep_cell hI Y0
                  have k4 := keep_cell hI Y1
                  have k5 := keep_cell hI Y2
                  have HI := Lib.hid hI
                  clear hI hst hR
                  go_wp2
                  exact ⟨rfl, _, rfl, rfl, HI.out, fun _ _ h => h⟩
                · refine Owes.mk _ rfl rfl (fun _ _ h => by cases h) fun u m w' hm hI hR => ⟨⟨#[undef, undef, undef, undef, undef, undef, undef, undef, undef, undef, undef, undef, undef, undef, undef, undef, undef, undef, undef, undef, undef, undef, undef, undef, undef, undef, undef, undef, undef, undef, undef, undef, undef, undef, undef, undef, undef, undef, undef, undef, undef, undef, undef, undef, u 1, undef, undef, undef, undef, undef, undef, undef, undef, undef, undef, undef, undef, undef, undef, undef, undef, undef, undef, undef], []⟩, rfl, fun d hd => by cases hd; exact (by decide : 45 < 64), ?_⟩
                  have e1 : u 1 = _ := hR 1 (by decide)
                  have k0 := keep_cell hI X0
                  have k1 := keep_cell hI X1
                  have k2 := keep_cell hI X2
                  have k3 := keep_cell hI Y0
                  have k4 := keep_cell hI Y1
                  have k5 := keep_cell hI Y2
                  rw [e1]
                  clear e1
                  have HSy := Lib.hid (SlR.below intR_fits SY8.out hI)
                  have HPw := Lib.hid (HP.out.below (B8.out.trans (hI.mono B8.out.size)))
                  have HWw := Lib.hid (HW.out.below (B8.out.trans (hI.mono B8.out.size)))
                  have HI := Lib.hid hI
                  have HSt := Lib.hid hst
                  clear hI hst hR
                  go_wp2_with fail
                  refine (iRspText_any y _ fy _ HSy.out HPw.out HWw.out).mono ?_
                  rw [← HSB.out]
                  rintro e w9 ⟨rfl, b9⟩
                  have HS := Lib.hid (facts_stable HSt.out (b9.chg []))
                  have HI9 := Lib.hid (HI.out.trans (b9.mono HI.out.size))
                  clear b9
                  go_wp2
                  exact ⟨rfl, _, rfl, rfl, HI9.out, HS.out⟩
                · refine Owes.mk _ rfl rfl (fun _ _ h => by cases h) fun u m w' hm hI hR => ⟨⟨#[undef, undef, undef, undef, undef, undef, undef, undef, undef, undef, undef, undef, undef, undef, undef, undef, undef, undef, undef, undef, undef, undef, undef, undef, undef, undef, undef, undef, undef, undef, undef, undef, undef, undef, undef, undef, undef, undef, undef, undef, undef, undef, undef, u 0, undef, u 2, undef, undef, undef, undef, undef, undef, undef, undef, undef, undef, undef, undef, undef, undef, undef, undef, undef, undef], []⟩, rfl, fun d hd => by cases hd; exact (by decide : 46 < 64), ?_⟩
                  have e0 : u 0 = _ := hR 0 (by decide)
                  have e2 : u 2 = _ := hR 2 (by decide)
                  have k0 := keep_cell hI X0
                  have k1 := keep_cell hI X1
                  have k2 := keep_cell hI X2
                  have k3 := keep_cell hI Y0
                  have k4 := keep_cell hI Y1
                  have k5 := keep_cell hI Y2
                  have HI := Lib.hid hI
                  clear hI hst hR
                  rw [e0, e2]
                  clear e0 e2
                  go_wp2
                  exact ⟨rfl, _, rfl, rfl, HI.out, fun _ _ h => h⟩
                · refine Owes.mk _ rfl rfl (fun _ _ h => by cases h) fun u m w' hm hI hR => ⟨⟨#[undef, undef, undef, undef, undef, .pointer (some ⟨bx, 0, none⟩), undef, undef, undef, undef, undef, undef, undef, undef, undef, undef, undef, undef, undef, undef, undef, undef, undef, undef, undef, undef, undef, undef, undef, undef, undef, undef, undef, undef, undef, undef, undef, undef, undef, undef, undef, undef, undef, undef, undef, undef, undef, undef, undef, undef, undef, undef, undef, undef, undef, undef, undef, undef, undef, undef, undef, undef, undef, undef], []⟩, rfl, fun d hd => by cases hd; exact (by decide : 47 < 64), ?_⟩
                  have k0 := keep_cell hI X0
                  have k1 := keep_cell hI X1
                  have k2 := keep_cell hI X2
                  have k3 := keep_cell hI Y0
                  have k4 := keep_cell hI Y1
                  have k5 := keep_cell hI Y2
                  have HI := Lib.hid hI
                  clear hI hst hR
                  go_wp2
                  exact ⟨rfl, _, rfl, rfl, HI.out, fun _ _ h => h⟩
                · refine Owes.mk _ rfl rfl (fun _ _ h => by cases h) fun u m w' hm hI hR => ⟨⟨#[undef, undef, undef, undef, undef, undef, undef, undef, undef, undef, undef, undef, undef, undef, undef, undef, undef, undef, undef, undef, undef, undef, undef, undef, undef, undef, undef, undef, undef, undef, undef, undef, undef, undef, undef, undef, undef, undef, undef, undef, undef, undef, undef, undef, undef, undef, undef, u 4, undef, undef, undef, undef, undef, undef, undef, undef, undef, undef, undef, undef, undef, undef, undef, undef], []⟩, rfl, fun d hd => by cases hd; exact (by decide : 48 < 64), ?_⟩
                  have e4 : u 4 = _ := hR 4 (by decide)
                  have k0 := keep_cell hI X0
                  have k1 := keep_cell hI X1
                  have k2 := keep_cell hI X2
                  have k3 := keep_cell hI Y0
                  have k4 := keep_cell hI Y1
                  have k5 := keep_cell hI Y2
                  have HI := Lib.hid hI
                  clear hI hst hR
                  rw [e4]
                  clear e4
                  go_wp2
                  exact ⟨rfl, _, rfl, rfl, HI.out, fun _ _ h => h⟩
                · refine Owes.mk _ rfl rfl (fun _ _ h => by cases h) fun u m w' hm hI hR => ⟨⟨#[undef, undef, undef, undef, undef, undef, .pointer (some ⟨bb, 0, none⟩), undef, undef, undef, undef, undef, undef, undef, undef, undef, undef, undef, undef, undef, undef, undef, undef, undef, undef, undef, undef, undef, undef, undef, undef, undef, undef, undef, undef, undef, undef, undef, undef, undef, undef, undef, undef, undef, undef, undef, undef, undef, undef, undef, undef, undef, undef, undef, undef, undef, undef, undef, undef, undef, undef, undef, undef, undef], []⟩, rfl, fun d hd => by cases hd; exact (by decide : 49 < 64), ?_⟩
                  have k0 := keep_cell hI X0
                  have k1 := keep_cell hI X1
                  have k2 := keep_cell hI X2
                  have k3 := keep_cell hI Y0
                  have k4 := keep_cell hI Y1
                  have k5 := keep_cell hI Y2
                  have HI := Lib.hid hI
                  clear hI hst hR
                  go_wp2
                  exact ⟨rfl, _, rfl, rfl, HI.out, fun _ _ h => h⟩
                · refine Owes.mk _ rfl rfl (fun _ _ h => by cases h) fun u m w' hm hI hR => ⟨⟨#[undef, undef, undef, undef, undef, undef, undef, undef, undef, undef, undef, undef, undef, undef, undef, undef, undef, undef, undef, undef, undef, undef, undef, undef, undef, undef, undef, undef, undef, undef, undef, undef, undef, undef, undef, undef, undef, undef, undef, undef, undef, undef, undef, undef, undef, undef, undef, undef, undef, u 6, undef, undef, undef, undef, undef, undef, undef, undef, undef, undef, undef, undef, undef, undef], []⟩, rfl, fun d hd => by cases hd; exact (by decide : 50 < 64), ?_⟩
                  have e6 : u 6 = _ := hR 6 (by decide)
                  have k0 := keep_cell hI X0
                  have k1 := keep_cell hI X1
                  have k2 := keep_cell hI X2
                  have k3 := keep_cell hI Y0
                  have k4 := keep_cell hI Y1
                  have k5 := keep_cell hI Y2
                  have HI := Lib.hid hI
                  clear hI hst hR
                  rw [e6]
                  clear e6
                  go_wp2
                  exact ⟨rfl, _, rfl, rfl, HI.out, fun _ _ h => h⟩
                · refine Owes.mk _ rfl rfl (fun _ _ h => by cases h) fun u m w' hm hI hR => ⟨⟨#[undef, undef, undef, undef, undef, undef, undef, undef, undef, undef, undef, undef, undef, undef, undef, undef, undef, undef, undef, undef, undef, undef, undef, undef, undef, undef, undef, undef, undef, undef, undef, undef, undef, undef, undef, undef, undef, undef, undef, undef, undef, undef, undef, undef, undef, undef, undef, undef, u 5, undef, u 7, undef, undef, undef, undef, undef, undef, undef, undef, undef, undef, undef, undef, undef], []⟩, rfl, fun d hd => by cases hd; exact (by decide : 51 < 64), ?_⟩
                  have e5 : u 5 = _ := hR 5 (by decide)
                  have e7 : u 7 = _ := hR 7 (by decide)
                  have k0 := keep_cell hI X0
                  have k1 := keep_cell hI X1
                  have k2 := keep_cell hI X2
                  have k3 := keep_cell hI Y0
                  have k4 := keep_cell hI Y1
                  have k5 := keep_cell hI Y2
                  have HI := Lib.hid hI
                  clear hI hst hR
                  rw [e5, e7]
                  clear e5 e7
                  go_wp2
                  exact ⟨rfl, _, rfl, rfl, HI.out, fun _ _ h => h⟩
                · refine Owes.mk _ rfl rfl (fun _ _ h => by cases h) fun u m w' hm hI hR => ⟨⟨#[undef, undef, undef, undef, undef, undef, undef, undef, undef, undef, undef, undef, undef, undef, undef, undef, undef, undef, undef, undef, undef, undef, undef, undef, undef, undef, undef, undef, undef, undef, undef, undef, undef, undef, undef, undef, undef, undef, undef, undef, undef, undef, undef, undef, undef, undef, undef, undef, undef, undef, undef, u 8, undef, undef, undef, undef, undef, undef, undef, undef, undef, undef, undef, undef], []⟩, rfl, fun d hd => by cases hd; exact (by decide : 52 < 64), ?_⟩
                  have e8 : u 8 = _ := hR 8 (by decide)
                  have k0 := keep_cell hI X0
                  have k1 := keep_cell hI X1
                  have k2 := keep_cell hI X2
                  have k3 := keep_cell hI Y0
                  have k4 := keep_cell hI Y1
                  have k5 := keep_cell hI Y2
                  have HI := Lib.hid hI
                  clear hI hst hR
                  rw [e8]
                  clear e8
                  go_wp2
                  exact ⟨rfl, _, rfl, rfl, HI.out, fun _ _ h => h⟩
                · refine Owes.mkG _ _ rfl rfl (fun _ _ h => by cases h) fun u m w' hm hI hR => ⟨⟨#[undef, undef, undef, undef, undef, .pointer (some ⟨bx, 0, none⟩), undef, undef, undef, undef, undef, undef, undef, undef, undef, undef, undef, undef, undef, undef, undef, undef, undef, undef, undef, undef, undef, undef, undef, undef, undef, undef, undef, undef, undef, undef, undef, undef, undef, undef, undef, undef, undef, undef, undef, undef, undef, undef, undef, undef, undef, undef, undef, undef, undef, undef, undef, undef, undef, undef, undef, undef, undef, undef], []⟩, rfl, fun d hd => by cases hd; exact (by decide : 53 < 64), ?_⟩
                  have k0 := keep_cell hI X0
                  have k1 := keep_cell hI X1
                  have k2 := keep_cell hI X2
                  have k3 := keep_cell hI Y0
                  have k4 := keep_cell hI Y1
                  have k5 := keep_cell hI Y2
                  have HI := Lib.hid hI
                  clear hI hst hR
                  go_wp2
                  exact ⟨rfl, _, rfl, rfl, HI.out, fun _ _ h => h⟩
                · refine Owes.mkG _ _ rfl rfl (fun _ _ h => by cases h) fun u m w' hm hI hR => ⟨⟨#[undef, undef, undef, undef, undef, undef, undef, undef, undef, undef, undef, undef, undef, undef, undef, undef, undef, undef, undef, undef, undef, undef, undef, undef, undef, undef, undef, undef, undef, undef, undef, undef, undef, undef, undef, undef, undef, undef, undef, undef, undef, undef, undef, undef, undef, undef, undef, undef, undef, undef, undef, undef, undef, u 10, undef, undef, undef, undef, undef, undef, undef, undef, undef, undef], []⟩, rfl, fun d hd => by cases hd; exact (by decide : 54 < 64), ?_⟩
                  have e10 : u 10 = _ := hR 10 (by decide)
                  have k0 := keep_cell hI X0
                  have k1 := keep_cell hI X1
                  have k2 := keep_cell hI X2
                  have k3 := keep_cell hI Y0
                  have k4 := keep_cell hI Y1
                  have k5 := keep_cell hI Y2
                  have HI := Lib.hid hI
                  clear hI hst hR
                  rw [e10]
                  clear e10
                  go_wp2
                  exact ⟨rfl, _, rfl, rfl, HI.out, fun _ _ h => h⟩
                · refine Owes.mkG _ _ rfl rfl (fun _ _ h => by cases h) fun u m w' hm hI hR => ⟨⟨#[undef, undef, undef, undef, undef, undef, .pointer (some ⟨bb, 0, none⟩), undef, undef, undef, undef, undef, undef, undef, undef, undef, undef, undef, undef, undef, undef, undef, undef, undef, undef, undef, undef, undef, undef, undef, undef, undef, undef, undef, undef, undef, undef, undef, undef, undef, undef, undef, undef, undef, undef, undef, undef, undef, undef, undef, undef, undef, undef, undef, undef, undef, undef, undef, undef, undef, undef, undef, undef, undef], []⟩, rfl, fun d hd => by cases hd; exact (by decide : 55 < 64), ?_⟩
                  have k0 := keep_cell hI X0
                  have k1 := keep_cell hI X1
                  have k2 := keep_cell hI X2
                  have k3 := keep_cell hI Y0
                  have k4 := keep_cell hI Y1
                  have k5 := keep_cell hI Y2
                  have HI := Lib.hid hI
                  clear hI hst hR
                  go_wp2
                  exact ⟨rfl, _, rfl, rfl, HI.out, fun _ _ h => h⟩
                · refine Owes.mkG _ _ rfl rfl (fun _ _ h => by cases h) fun u m w' hm hI hR => ⟨⟨#[undef, undef, undef, undef, undef, undef, undef, undef, undef, undef, undef, undef, undef, undef, undef, undef, undef, undef, undef, undef, undef, undef, undef, undef, undef, undef, undef, undef, undef, undef, undef, undef, undef, undef, undef, undef, undef, undef, undef, undef, undef, undef, undef, undef, undef, undef, undef, undef, undef, undef, undef, undef, undef, undef, undef, u 12, undef, undef, undef, undef, undef, undef, undef, undef], []⟩, rfl, fun d hd => by cases hd; exact (by decide : 56 < 64), ?_⟩
                  have e12 : u 12 = _ := hR 12 (by decide)
                  have k0 := keep_cell hI X0
                  have k1 := keep_cell hI X1
                  have k2 := keep_cell hI X2
                  have k3 := keep_cell hI Y0
                  have k4 := keep_cell hI Y1
                  have k5 := keep_cell hI Y2
                  have HI := Lib.hid hI
                  clear hI hst hR
                  rw [e12]
                  clear e12
                  go_wp2
                  exact ⟨rfl, _, rfl, rfl, HI.out, fun _ _ h => h⟩
                · refine Owes.mkG _ _ rfl rfl (fun _ _ h => by cases h) fun u m w' hm hI hR => ⟨⟨#[undef, undef, undef, undef, undef, undef, undef, undef, undef, undef, undef, undef, undef, undef, undef, undef, undef, undef, undef, undef, undef, undef, undef, undef, undef, undef, undef, undef, undef, undef, undef, undef, undef, undef, undef, undef, undef, undef, undef, undef, undef, undef, undef, undef, undef, undef, undef, undef, undef, undef, undef, undef, undef, undef, u 11, undef, u 13, undef, undef, undef, undef, undef, undef, undef], []⟩, rfl, fun d hd => by cases hd; exact (by decide : 57 < 64), ?_⟩
                  have e11 : u 11 = _ := hR 11 (by decide)
                  have e13 : u 13 = _ := hR 13 (by decide)
                  have k0 := keep_cell hI X0
                  have k1 := keep_cell hI X1
                  have k2 := keep_cell hI X2
                  have k3 := keep_cell hI Y0
                  have k4 := keep_cell hI Y1
                  have k5 := keep_cell hI Y2
                  rw [e11, e13]
                  clear e11 e13
                  have HSx := Lib.hid (SlR.below intR_fits SX8.out hI)
                  have HSy := Lib.hid (SlR.below intR_fits SY8.out hI)
                  have HI := Lib.hid hI
                  have HSt := Lib.hid hst
                  clear hI hst hR
                  go_wp2_with fail
                  refine (crInts_any _ _ _ _ fx fy _ HSx.out HSy.out).mono ?_
                  rw [decide_eq_false HD.out]
                  rintro e w9 ⟨rfl, nd, hw9⟩
                  have b9 : Below w'.heap.size w' w9 := by rw [hw9]; exact below_drewN (Below.refl _ _) nd
                  have HS := Lib.hid (facts_stable HSt.out (b9.chg []))
                  have HI9 := Lib.hid (HI.out.trans (b9.mono HI.out.size))
                  clear b9 hw9
                  go_wp2
                  exact ⟨rfl, _, rfl, rfl, HI9.out, HS.out⟩
                · refine Owes.mk _ rfl rfl (fun _ _ h => by cases h) fun u m w' hm hI hR => ⟨⟨#[undef, undef, undef, undef, undef, undef, undef, undef, undef, undef, undef, undef, undef, undef, undef, undef, undef, undef, undef, undef, undef, undef, undef, undef, undef, undef, undef, undef, undef, undef, undef, undef, undef, undef, undef, undef, undef, undef, undef, undef, undef, undef, undef, undef, undef, undef, undef, undef, undef, undef, undef, undef, u 9, undef, undef, undef, undef, u 14, undef, undef, undef, undef, undef, undef], []⟩, rfl, fun d hd => by cases hd; exact (by decide : 58 < 64), ?_⟩
                  have e9 : u 9 = _ := hR 9 (by decide)
                  have e14 : u 14 = _ := hR 14 (by decide)
                  have k0 := keep_cell hI X0
                  have k1 := keep_cell hI X1
                  have k2 := keep_cell hI X2
                  have k3 := keep_cell hI Y0
                  have k4 := keep_cell hI Y1
                  have k5 := keep_cell hI Y2
                  have HI := Lib.hid hI
                  clear hI hst hR
                  rw [e9, e14]
                  clear e9 e14
                  go_wp2
                  exact ⟨rfl, _, rfl, rfl, HI.out, fun _ _ h => h⟩
                · refine Owes.mk _ rfl rfl (fun _ _ h => by cases h) fun u m w' hm hI hR => ⟨⟨#[undef, undef, undef, undef, undef, undef, undef, undef, undef, undef, undef, undef, undef, undef, undef, undef, undef, undef, undef, undef, undef, undef, undef, undef, undef, undef, undef, undef, undef, undef, undef, undef, undef, undef, undef, undef, undef, undef, undef, undef, undef, undef, undef, undef, undef, undef, u 3, undef, undef, undef, undef, undef, undef, undef, undef, undef, undef, undef, u 15, undef, undef, undef, undef, undef], []⟩, rfl, fun d hd => by cases hd; exact (by decide : 59 < 64), ?_⟩
                  have e3 : u 3 = _ := hR 3 (by decide)
                  have e15 : u 15 = _ := hR 15 (by decide)
                  have k0 := keep_cell hI X0
                  have k1 := keep_cell hI X1
                  have k2 := keep_cell hI X2
                  have k3 := keep_cell hI Y0
                  have k4 := keep_cell hI Y1
                  have k5 := keep_cell hI Y2
                  have HI := Lib.hid hI
                  clear hI hst hR
                  rw [e3, e15]
                  clear e3 e15
                  go_wp2
                  exact ⟨rfl, _, rfl, rfl, HI.out, fun _ _ h => h⟩
                · refine Owes.mk _ rfl rfl (fun _ _ h => by cases h) fun u m w' hm hI hR => ⟨⟨#[undef, undef, undef, undef, undef, undef, undef, undef, undef, undef, undef, undef, undef, undef, undef, undef, undef, undef, undef, undef, undef, undef, undef, undef, undef, undef, undef, undef, undef, undef, undef, undef, undef, undef, undef, undef, undef, undef, undef, undef, undef, undef, undef, undef, undef, undef, undef, undef, undef, undef, undef, undef, undef, undef, undef, undef, undef, undef, undef, u 16, undef, undef, undef, undef], []⟩, rfl, fun d hd => by cases hd; exact (by decide : 60 < 64), ?_⟩
                  have e16 : u 16 = _ := hR 16 (by decide)
                  have k0 := keep_cell hI X0
                  have k1 := keep_cell hI X1
                  have k2 := keep_cell hI X2
                  have k3 := keep_cell hI Y0
                  have k4 := keep_cell hI Y1
                  have k5 := keep_cell hI Y2
                  have HI := Lib.hid hI
                  clear hI hst hR
                  rw [e16]
                  clear e16
                  go_wp2
                  exact ⟨rfl, _, rfl, rfl, HI.out, fun _ _ h => h⟩
                · refine Owes.mkG _ _ rfl rfl (fun _ _ h => by cases h) fun u m w' hm hI hR => ⟨⟨#[undef, undef, undef, undef, undef, undef, undef, .string sa, undef, undef, undef, undef, undef, undef, undef, undef, undef, undef, undef, undef, undef, undef, undef, undef, undef, undef, undef, undef, undef, undef, undef, undef, undef, undef, undef, undef, undef, undef, undef, undef, undef, undef, undef, undef, undef, undef, undef, undef, undef, undef, undef, undef, undef, undef, undef, undef, undef, undef, undef, undef, undef, undef, undef, undef], []⟩, rfl, fun d hd => by cases hd; exact (by decide : 61 < 64), ?_⟩
                  have k0 := keep_cell hI X0
                  have k1 := keep_cell hI X1
                  have k2 := keep_cell hI X2
                  have k3 := keep_cell hI Y0
                  have k4 := keep_cell hI Y1
                  have k5 := keep_cell hI Y2
                  have HI := Lib.hid hI
                  clear hI hst hR
                  go_wp2
                  exact ⟨rfl, _, rfl, rfl, HI.out, fun _ _ h => h⟩
                · refine Owes.mkG _ _ rfl rfl (fun _ _ h => by cases h) fun u m w' hm hI hR => ⟨⟨#[undef, undef, undef, undef, undef, undef, undef, undef, undef, undef, undef, undef, undef, undef, undef, undef, undef, undef, undef, undef, undef, undef, undef, undef, undef, undef, undef, undef, undef, undef, undef, undef, undef, undef, undef, undef, undef, undef, undef, undef, undef, undef, undef, undef, undef, undef, undef, undef, undef, undef, undef, undef, undef, undef, undef, undef, undef, undef, undef, undef, undef, u 18, undef, undef], []⟩, rfl, fun d hd => by cases hd; exact (by decide : 62 < 64), ?_⟩
                  have e18 : u 18 = _ := hR 18 (by decide)
                  have k0 := keep_cell hI X0
                  have k1 := keep_cell hI X1
                  have k2 := keep_cell hI X2
                  have k3 := keep_cell hI Y0
                  have k4 := keep_cell hI Y1
                  have k5 := keep_cell hI Y2
                  have HI := Lib.hid hI
                  clear hI hst hR
                  rw [e18]
                  clear e18
                  go_wp2
                  exact ⟨rfl, _, rfl, rfl, HI.out, fun _ _ h => h⟩
                · refine Owes.mk _ rfl rfl (fun _ _ h => by cases h) fun u m w' hm hI hR => ⟨⟨#[undef, undef, undef, undef, undef, undef, undef, undef, undef, undef, undef, undef, undef, undef, undef, undef, undef, undef, undef, undef, undef, undef, undef, undef, undef, undef, undef, undef, undef, undef, undef, undef, undef, undef, undef, undef, undef, undef, undef, undef, undef, undef, undef, undef, undef, undef, undef, undef, undef, undef, undef, undef, undef, undef, undef, undef, undef, undef, undef, undef, u 17, undef, u 19, undef], []⟩, rfl, fun d hd => by cases hd; exact (by decide : 63 < 64), ?_⟩
                  have e17 : u 17 = _ := hR 17 (by decide)
                  have e19 : u 19 = _ := hR 19 (by decide)
                  have k0 := keep_cell hI X0
                  have k1 := keep_cell hI X1
                  have k2 := keep_cell hI X2
                  have k3 := keep_cell hI Y0
                  have k4 := keep_cell hI Y1
                  have k5 := keep_cell hI Y2
                  have HI := Lib.hid hI
                  clear hI hst hR
                  rw [e17, e19]
                  clear e17 e19
                  go_wp2
                  exact ⟨rfl, _, rfl, rfl, HI.out, fun _ _ h => h⟩
                · refine Owes.mk _ rfl rfl (fun _ _ h => by cases h) fun u m w' hm hI hR => ⟨⟨#[undef, undef, undef, undef, undef, undef, undef, undef, undef, undef, undef, undef, undef, undef, undef, undef, undef, undef, undef, undef, undef, undef, undef, undef, undef, undef, undef, undef, undef, undef, undef, undef, undef, undef, undef, undef, undef, undef, undef, undef, undef, undef, undef, undef, undef, undef, undef, undef, undef, undef, undef, undef, undef, undef, undef, undef, undef, undef, undef, undef, undef, undef, undef, u 20], []⟩, rfl, fun d hd => by cases hd; exact (by decide : 4 < 64), ?_⟩
                  have e20 : u 20 = _ := hR 20 (by decide)
                  have k0 := keep_cell hI X0
                  have k1 := keep_cell hI X1
                  have k2 := keep_cell hI X2
                  have k3 := keep_cell hI Y0
                  have k4 := keep_cell hI Y1
                  have k5 := keep_cell hI Y2
                  have HI := Lib.hid hI
                  clear hI hst hR
                  rw [e20]
                  clear e20
                  go_wp2
                  exact ⟨rfl, _, rfl, rfl, HI.out, fun _ _ h => h⟩
              case hend =>
                intro u w' hI hR
                simp only [setAll, List.set_cons_zero, List.set_cons_succ]
                unfold wpList
                have e21 : u 21 = _ := hR 21 (by decide)
                rw [e21]
                have HBw := Lib.hid (B8.out.trans (hI.mono B8.out.size))
                clear hR hI hst e21
                go_wp2
                go_ret
                exact ⟨rfl, HBw.out⟩
          · have hss : (sa == sb) = false := by rw [hbeq, decide_eq_false (fun e => hc (text_inj QX.out QY.out e).1)]
            have hsse : (sa.toList == sb.toList) = false := by rw [← beq_toListBytes]; exact hss
            have hcb : (x.code == y.code) = false := by simpa using hc
            clear hsb hbeq hss
            go_upto_region 10 with fail
            have hst : ∀ F, F ∈ [FEq (.string sa), FEq (.agg #[.int .i64 y.id, .int .i64 y.code, .slice ya yn yc]), FEq (.string sb), FEq (.bool false), FEq (.pointer (some ⟨bx, 1, none⟩)), FEq (.int .i64 x.code), FEq (.pointer (some ⟨bb, 1, none⟩)), FEq (.int .i64 y.code), FEq (.bool false), FEq (.bool false), FEq undef, FEq undef, FEq undef, FEq undef, FEq undef, FEq (.bool false), FEq (.bool true), FEq (.bool true), FEq (.string sa), FEq (.bool true), FEq (.bool true), FEq (.bool true)] → Stable [] F := by
              simp only [List.forall_mem_cons]
              exact ⟨stEq _ _, stEq _ _, stEq _ _, stEq _ _, stEq _ _, stEq _ _, stEq _ _, stEq _ _, stEq _ _, stEq _ _, stEq _ _, stEq _ _, stEq _ _, stEq _ _, stEq _ _, stEq _ _, stEq _ _, stEq _ _, stEq _ _, stEq _ _, stEq _ _, stEq _ _, fun _ h => by simp at h⟩
            refine wp_region_skip (by kernel_rfl) (fun i => ([[], [], [1], [0, 1, 2], [], [4], [], [6], [4, 5, 6, 7], [1, 2, 4, 5, 6, 7, 8], [1, 2, 4, 5, 6, 7, 8, 9], [1, 2, 4, 5, 6, 7, 8, 9, 10], [1, 2, 4, 5, 6, 7, 8, 9], [1, 2, 4, 5, 6, 7, 8, 9, 12], [1, 2, 4, 5, 6, 7, 8, 9, 10, 11, 12, 13], [1, 2, 4, 5, 6, 7, 8, 9, 10, 11, 12, 13, 14], [0, 1, 2, 3, 4, 5, 6, 7, 8, 9, 10, 11, 12, 13, 14, 15], [0, 1, 2, 3, 4, 5, 6, 7, 8, 9, 10, 11, 12, 13, 14, 15, 16], [0, 1, 2, 3, 4, 5, 6, 7, 8, 9, 10, 11, 12, 13, 14, 15, 16, 17], [0, 1, 2, 3, 4, 5, 6, 7, 8, 9, 10, 11, 12, 13, 14, 15, 16, 17, 18], [0, 1, 2, 3, 4, 5, 6, 7, 8, 9, 10, 11, 12, 13, 14, 15, 16, 17, 18, 19], [0, 1, 2, 3, 4, 5, 6, 7, 8, 9, 10, 11, 12, 13, 14, 15, 16, 17, 18, 19, 20]] : List (List Nat)).getD i []) (facts [FEq (.string sa), FEq (.agg #[.int .i64 y.id, .int .i64 y.code, .slice ya yn yc]), FEq (.string sb), FEq (.bool false), FEq (.pointer (some ⟨bx, 1, none⟩)), FEq (.int .i64 x.code), FEq (.pointer (some ⟨bb, 1, none⟩)), FEq (.int .i64 y.code), FEq (.bool false), FEq (.bool false), FEq undef, FEq undef, FEq undef, FEq undef, FEq undef, FEq (.bool false), FEq (.bool true), FEq (.bool true), FEq (.string sa), FEq (.bool true), FEq (.bool true), FEq (.bool true)]) (fun m w' => Below w8.heap.size w8 w') 64 22 22 [some 43, some 44, some 45, some 46, some 47, some 48, some 49, some 50, some 51, some 52, some 53, some 54, some 55, some 56, some 57, some 58, some 59, some 60, some 61, some 62, some 63, some 4] [] rfl rfl (by decide) rfl rfl (by kernel_rfl) (by kernel_rfl) [10, 11, 12, 13, 14] [(17, true), (9, false)] (by kernel_rfl) (fun g b hm v w h => by simp only [List.mem_cons, List.not_mem_nil, or_false, Prod.mk.injEq] at hm; rcases hm with ⟨rfl, rfl⟩ | ⟨rfl, rfl⟩ <;> exact h) (fun i hi w => by simp only [List.mem_cons, List.not_mem_nil, or_false] at hi; rcases hi with rfl | rfl | rfl | rfl | rfl <;> rfl) (fun _ _ h => h) ?h0 (all_lt (n := 22) ?hop) ?hend
            case h0 => exact (Below.refl _ _).drew
            case hop =>
              refine ⟨⟨⟨⟨⟨⟨⟨⟨⟨⟨⟨⟨⟨⟨⟨⟨⟨⟨⟨⟨⟨⟨trivial, ?_⟩, ?_⟩, ?_⟩, ?_⟩, ?_⟩, ?_⟩, ?_⟩, ?_⟩, ?_⟩, ?_⟩, ?_⟩, ?_⟩, ?_⟩, ?_⟩, ?_⟩, ?_⟩, ?_⟩, ?_⟩, ?_⟩, ?_⟩, ?_⟩, ?_⟩
              · refine .inr (Owes.mk _ rfl rfl (fun _ _ h => by cases h) fun u m w' hm hI hR => ⟨⟨#[undef, undef, undef, undef, undef, undef, undef, .string sa, undef, undef, undef, undef, undef, undef, undef, undef, undef, undef, undef, undef, undef, undef, undef, undef, undef, undef, undef, undef, undef, undef, undef, undef, undef, undef, undef, undef, undef, undef, undef, undef, undef, undef, undef, undef, undef, undef, undef, undef, undef, undef, undef, undef, undef, undef, undef, undef, undef, undef, undef, undef, undef, undef, undef, undef], []⟩, rfl, fun d hd => by cases hd; exact (by decide : 43 < 64), ?_⟩)
                have k0 := keep_cell hI X0
                have k1 := keep_cell hI X1
                have k2 := keep_cell hI X2
                have k3 := keep_cell hI Y0
                have k4 := keep_cell hI Y1
                have k5 := keep_cell hI Y2
                have HI := Lib.hid hI
                clear hI hst hR
                go_wp2
                exact ⟨rfl, _, rfl, rfl, HI.out, fun _ _ h => h⟩
              · refine .inr (Owes.mk _ rfl rfl (fun _ _ h => by cases h) fun u m w' hm hI hR => ⟨⟨#[undef, undef, undef, undef, undef, undef, .pointer (some ⟨bb, 0, none⟩), undef, undef, undef, undef, undef, undef, undef, undef, undef, undef, undef, undef, undef, undef, undef, undef, undef, undef, undef, undef, undef, undef, undef, undef, undef, undef, undef, undef, undef, undef, undef, undef, undef, undef, undef, undef, undef, undef, undef, undef, undef, undef, undef, undef, undef, undef, undef, undef, undef, undef, undef, undef, undef, undef, undef, undef, undef], []⟩, rfl, fun d hd => by cases hd; exact (by decide : 44 < 64), ?_⟩)
                have k0 := keep_cell hI X0
                have k1 := keep_cell hI X1
                have k2 := keep_cell hI X2
                have k3 := keep_cell hI Y0
                have k4 := keep_cell hI Y1
                have k5 := keep_cell hI Y2
                have HI := Lib.hid hI
                clear hI hst hR
                go_wp2
                exact ⟨rfl, _, rfl, rfl, HI.out, fun _ _ h => h⟩
              · refine .inr (Owes.mk _ rfl rfl (fun _ _ h => by cases h) fun u m w' hm hI hR => ⟨⟨#[undef, undef, undef, undef, undef, undef, undef, undef, undef, undef, undef, undef, undef, undef, undef, undef, undef, undef, undef, undef, undef, undef, undef, undef, undef, undef, undef, undef, undef, undef, undef, undef, undef, undef, undef, undef, undef, undef, undef, undef, undef, undef, undef, undef, u 1, undef, undef, undef, undef, undef, undef, undef, undef, undef, undef, undef, undef, undef, undef, undef, undef, undef, undef, undef], []⟩, rfl, fun d hd => by cases hd; exact (by decide : 45 < 64), ?_⟩)
                have e1 : u 1 = _ := hR 1 (by decide)
                have k0 := keep_cell hI X0
                have k1 := keep_cell hI X1
                have k2 := keep_cell hI X2
                have k3 := keep_cell hI Y0
                have k4 := keep_cell hI Y1
                have k5 := keep_cell hI Y2
                rw [e1]
                clear e1
                have HSy := Lib.hid (SlR.below intR_fits SY8.out hI)
                have HPw := Lib.hid (HP.out.below (B8.out.trans (hI.mono B8.out.size)))
                have HWw := Lib.hid (HW.out.below (B8.out.trans (hI.mono B8.out.size)))
                have HI := Lib.hid hI
                have HSt := Lib.hid hst
                clear hI hst hR
                go_wp2_with fail
                refine (iRspText_any y _ fy _ HSy.out HPw.out HWw.out).mono ?_
                rw [← HSB.out]
                rintro e w9 ⟨rfl, b9⟩
                have HS := Lib.hid (facts_stable HSt.out (b9.chg []))
                have HI9 := Lib.hid (HI.out.trans (b9.mono HI.out.size))
                clear b9
                go_wp2
                exact ⟨rfl, _, rfl, rfl, HI9.out, HS.out⟩
              · refine .inr (Owes.mk _ rfl rfl (fun _ _ h => by cases h) fun u m w' hm hI hR => ⟨⟨#[undef, undef, undef, undef, undef, undef, undef, undef, undef, undef, undef, undef, undef, undef, undef, undef, undef, undef, undef, undef, undef, undef, undef, undef, undef, undef, undef, undef, undef, undef, undef, undef, undef, undef, undef, undef, undef, undef, undef, undef, undef, undef, undef, u 0, undef, u 2, undef, undef, undef, undef, undef, undef, undef, undef, undef, undef, undef, undef, undef, undef, undef, undef, undef, undef], []⟩, rfl, fun d hd => by cases hd; exact (by decide : 46 < 64), ?_⟩)
                have e0 : u 0 = _ := hR 0 (by decide)
                have e2 : u 2 = _ := hR 2 (by decide)
                have k0 := keep_cell hI X0
                have k1 := keep_cell hI X1
                have k2 := keep_cell hI X2
                have k3 := keep_cell hI Y0
                have k4 := keep_cell hI Y1
                have k5 := keep_cell hI Y2
                have HI := Lib.hid hI
                clear hI hst hR
                rw [e0, e2]
                clear e0 e2
                go_wp2
                exact ⟨rfl, _, rfl, rfl, HI.out, fun _ _ h => h⟩
              · refine .inr (Owes.mk _ rfl rfl (fun _ _ h => by cases h) fun u m w' hm hI hR => ⟨⟨#[undef, undef, undef, undef, undef, .pointer (some ⟨bx, 0, none⟩), undef, undef, undef, undef, undef, undef, undef, undef, undef, undef, undef, undef, undef, undef, undef, undef, undef, undef, undef, undef, undef, undef, undef, undef, undef, undef, undef, undef, undef, undef, undef, undef, undef, undef, undef, undef, undef, undef, undef, undef, undef, undef, undef, undef, undef, undef, undef, undef, undef, undef, undef, undef, undef, undef, undef, undef, undef, undef], []⟩, rfl, fun d hd => by cases hd; exact (by decide : 47 < 64), ?_⟩)
                have k0 := keep_cell hI X0
                have k1 := keep_cell hI X1
                have k2 := keep_cell hI X2
                have k3 := keep_cell hI Y0
                have k4 := keep_cell hI Y1
                have k5 := keep_cell hI Y2
                have HI := Lib.hid hI
                clear hI hst hR
                go_wp2
                exact ⟨rfl, _, rfl, rfl, HI.out, fun _ _ h => h⟩
              · refine .inr (Owes.mk _ rfl rfl (fun _ _ h => by cases h) fun u m w' hm hI hR => ⟨⟨#[undef, undef, undef, undef, undef, undef, undef, undef, undef, undef, undef, undef, undef, undef, undef, undef, undef, undef, undef, undef, undef, undef, undef, undef, undef, undef, undef, undef, undef, undef, undef, undef, undef, undef, undef, undef, undef, undef, undef, undef, undef, undef, undef, undef, undef, undef, undef, u 4, undef, undef, undef, undef, undef, undef, undef, undef, undef, undef, undef, undef, undef, undef, undef, undef], []⟩, rfl, fun d hd => by cases hd; exact (by decide : 48 < 64), ?_⟩)
                have e4 : u 4 = _ := hR 4 (by decide)
                have k0 := keep_cell hI X0
                have k1 := keep_cell hI X1
                have k2 := keep_cell hI X2
                have k3 := keep_cell hI Y0
                have k4 := keep_cell hI Y1
                have k5 := keep_cell hI Y2
                have HI := Lib.hid hI
                clear hI hst hR
                rw [e4]
                clear e4
                go_wp2
                exact ⟨rfl, _, rfl, rfl, HI.out, fun _ _ h => h⟩
              · refine .inr (Owes.mk _ rfl rfl (fun _ _ h => by cases h) fun u m w' hm hI hR => ⟨⟨#[undef, undef, undef, undef, undef, undef, .pointer (some ⟨bb, 0, none⟩), undef, undef, undef, undef, undef, undef, undef, undef, undef, undef, undef, undef, undef, undef, undef, undef, undef, undef, undef, undef, undef, undef, undef, undef, undef, undef, undef, undef, undef, undef, undef, undef, undef, undef, undef, undef, undef, undef, undef, undef, undef, undef, undef, undef, undef, undef, undef, undef, undef, undef, undef, undef, undef, undef, undef, undef, undef], []⟩, rfl, fun d hd => by cases hd; exact (by decide : 49 < 64), ?_⟩)
                have k0 := keep_cell hI X0
                have k1 := keep_cell hI X1
                have k2 := keep_cell hI X2
                have k3 := keep_cell hI Y0
                have k4 := keep_cell hI Y1
                have k5 := keep_cell hI Y2
                have HI := Lib.hid hI
                clear hI hst hR
                go_wp2
                exact ⟨rfl, _, rfl, rfl, HI.out, fun _ _ h => h⟩
              · refine .inr (Owes.mk _ rfl rfl (fun _ _ h => by cases h) fun u m w' hm hI hR => ⟨⟨#[undef, undef, undef, undef, undef, undef, undef, undef, undef, undef, undef, undef, undef, undef, undef, undef, undef, undef, undef, undef, undef, undef, undef, undef, undef, undef, undef, undef, undef, undef, undef, undef, undef, undef, undef, undef, undef, undef, undef, undef, undef, undef, undef, undef, undef, undef, undef, undef, undef, u 6, undef, undef, undef, undef, undef, undef, undef, undef, undef, undef, undef, undef, undef, undef], []⟩, rfl, fun d hd => by cases hd; exact (by decide : 50 < 64), ?_⟩)
                have e6 : u 6 = _ := hR 6 (by decide)
                have k0 := keep_cell hI X0
                have k1 := keep_cell hI X1
                have k2 := keep_cell hI X2
                have k3 := keep_cell hI Y0
                have k4 := keep_cell hI Y1
                have k5 := keep_cell hI Y2
                have HI := Lib.hid hI
                clear hI hst hR
                rw [e6]
                clear e6
                go_wp2
                exact ⟨rfl, _, rfl, rfl, HI.out, fun _ _ h => h⟩
              · refine .inr (Owes.mk _ rfl rfl (fun _ _ h => by cases h) fun u m w' hm hI hR => ⟨⟨#[undef, undef, undef, undef, undef, undef, undef, undef, undef, undef, undef, undef, undef, undef, undef, undef, undef, undef, undef, undef, undef, undef, undef, undef, undef, undef, undef, undef, undef, undef, undef, undef, undef, undef, undef, undef, undef, undef, undef, undef, undef, undef, undef, undef, undef, undef, undef, undef, u 5, undef, u 7, undef, undef, undef, undef, undef, undef, undef, undef, undef, undef, undef, undef, undef], []⟩, rfl, fun d hd => by cases hd; exact (by decide : 51 < 64), ?_⟩)
                have e5 : u 5 = _ := hR 5 (by decide)
                have e7 : u 7 = _ := hR 7 (by decide)
                have k0 := keep_cell hI X0
                have k1 := keep_cell hI X1
                have k2 := keep_cell hI X2
                have k3 := keep_cell hI Y0
                have k4 := keep_cell hI Y1
                have k5 := keep_cell hI Y2
                have HI := Lib.hid hI
                clear hI hst hR
                rw [e5, e7]
                clear e5 e7
                go_wp2
                exact ⟨rfl, _, rfl, rfl, HI.out, fun _ _ h => h⟩
              · refine .inr (Owes.mk _ rfl rfl (fun _ _ h => by cases h) fun u m w' hm hI hR => ⟨⟨#[undef, undef, undef, undef, undef, undef, undef, undef, undef, undef, undef, undef, undef, undef, undef, undef, undef, undef, undef, undef, undef, undef, undef, undef, undef, undef, undef, undef, undef, undef, undef, undef, undef, undef, undef, undef, undef, undef, undef, undef, undef, undef, undef, undef, undef, undef, undef, undef, undef, undef, undef, u 8, undef, undef, undef, undef, undef, undef, undef, undef, undef, undef, undef, undef], []⟩, rfl, fun d hd => by cases hd; exact (by decide : 52 < 64), ?_⟩)
                have e8 : u 8 = _ := hR 8 (by decide)
                have k0 := keep_cell hI X0
                have k1 := keep_cell hI X1
                have k2 := keep_cell hI X2
                have k3 := keep_cell hI Y0
                have k4 := keep_cell hI Y1
                have k5 := keep_cell hI Y2
                have HI := Lib.hid hI
                clear hI hst hR
                rw [e8]
                clear e8
                go_wp2
                exact ⟨rfl, _, rfl, rfl, HI.out, fun _ _ h => h⟩
              · exact .inl (by decide)
              · exact .inl (by decide)
              · exact .inl (by decide)
              · exact .inl (by decide)
              · exact .inl (by decide)
              · refine .inr (Owes.mk _ rfl rfl (fun _ _ h => by cases h) fun u m w' hm hI hR => ⟨⟨#[undef, undef, undef, undef, undef, undef, undef, undef, undef, undef, undef, undef, undef, undef, undef, undef, undef, undef, undef, undef, undef, undef, undef, undef, undef, undef, undef, undef, undef, undef, undef, undef, undef, undef, undef, undef, undef, undef, undef, undef, undef, undef, undef, undef, undef, undef, undef, undef, undef, undef, undef, undef, u 9, undef, undef, undef, undef, u 14, undef, undef, undef, undef, undef, undef], []⟩, rfl, fun d hd => by cases hd; exact (by decide : 58 < 64), ?_⟩)
                have e9 : u 9 = _ := hR 9 (by decide)
                have e14 : u 14 = _ := hR 14 (by decide)
                have k0 := keep_cell hI X0
                have k1 := keep_cell hI X1
                have k2 := keep_cell hI X2
                have k3 := keep_cell hI Y0
                have k4 := keep_cell hI Y1
                have k5 := keep_cell hI Y2
                have HI := Lib.hid hI
                clear hI hst hR
                rw [e9, e14]
                clear e9 e14
                go_wp2
                exact ⟨rfl, _, rfl, rfl, HI.out, fun _ _ h => h⟩
              · refine .inr (Owes.mk _ rfl rfl (fun _ _ h => by cases h) fun u m w' hm hI hR => ⟨⟨#[undef, undef, undef, undef, undef, undef, undef, undef, undef, undef, undef, undef, undef, undef, undef, undef, undef, undef, undef, undef, undef, undef, undef, undef, undef, undef, undef, undef, undef, undef, undef, undef, undef, undef, undef, undef, undef, undef, undef, undef, undef, undef, undef, undef, undef, undef, u 3, undef, undef, undef, undef, undef, undef, undef, undef, undef, undef, undef, u 15, undef, undef, undef, undef, undef], []⟩, rfl, fun d hd => by cases hd; exact (by decide : 59 < 64), ?_⟩)
                have e3 : u 3 = _ := hR 3 (by decide)
                have e15 : u 15 = _ := hR 15 (by decide)
                have k0 := keep_cell hI X0
                have k1 := keep_cell hI X1
                have k2 := keep_cell hI X2
                have k3 := keep_cell hI Y0
                have k4 := keep_cell hI Y1
                have k5 := keep_cell hI Y2
                have HI := Lib.hid hI
                clear hI hst hR
                rw [e3, e15]
                clear e3 e15
                go_wp2
                exact ⟨rfl, _, rfl, rfl, HI.out, fun _ _ h => h⟩
              · refine .inr (Owes.mk _ rfl rfl (fun _ _ h => by cases h) fun u m w' hm hI hR => ⟨⟨#[undef, undef, undef, undef, undef, undef, undef, undef, undef, undef, undef, undef, undef, undef, undef, undef, undef, undef, undef, undef, undef, undef, undef, undef, undef, undef, undef, undef, undef, undef, undef, undef, undef, undef, undef, undef, undef, undef, undef, undef, undef, undef, undef, undef, undef, undef, undef, undef, undef, undef, undef, undef, undef, undef, undef, undef, undef, undef, undef, u 16, undef, undef, undef, undef], []⟩, rfl, fun d hd => by cases hd; exact (by decide : 60 < 64), ?_⟩)
                have e16 : u 16 = _ := hR 16 (by decide)
                have k0 := keep_cell hI X0
                have k1 := keep_cell hI X1
                have k2 := keep_cell hI X2
                have k3 := keep_cell hI Y0
                have k4 := keep_cell hI Y1
                have k5 := keep_cell hI Y2
                have HI := Lib.hid hI
                clear hI hst hR
                rw [e16]
                clear e16
                go_wp2
                exact ⟨rfl, _, rfl, rfl, HI.out, fun _ _ h => h⟩
              · refine .inr (Owes.mkG _ _ rfl rfl (fun _ _ h => by cases h) fun u m w' hm hI hR => ⟨⟨#[undef, undef, undef, undef, undef, undef, undef, .string sa, undef, undef, undef, undef, undef, undef, undef, undef, undef, undef, undef, undef, undef, undef, undef, undef, undef, undef, undef, undef, undef, undef, undef, undef, undef, undef, undef, undef, undef, undef, undef, undef, undef, undef, undef, undef, undef, undef, undef, undef, undef, undef, undef, undef, undef, undef, undef, undef, undef, undef, undef, undef, undef, undef, undef, undef], []⟩, rfl, fun d hd => by cases hd; exact (by decide : 61 < 64), ?_⟩)
                have k0 := keep_cell hI X0
                have k1 := keep_cell hI X1
                have k2 := keep_cell hI X2
                have k3 := keep_cell hI Y0
                have k4 := keep_cell hI Y1
                have k5 := keep_cell hI Y2
                have HI := Lib.hid hI
                clear hI hst hR
                go_wp2
                exact ⟨rfl, _, rfl, rfl, HI.out, fun _ _ h => h⟩
              · refine .inr (Owes.mkG _ _ rfl rfl (fun _ _ h => by cases h) fun u m w' hm hI hR => ⟨⟨#[undef, undef, undef, undef, undef, undef, undef, undef, undef, undef, undef, undef, undef, undef, undef, undef, undef, undef, undef, undef, undef, undef, undef, undef, undef, undef, undef, undef, undef, undef, undef, undef, undef, undef, undef, undef, undef, undef, undef, undef, undef, undef, undef, undef, undef, undef, undef, undef, undef, undef, undef, undef, undef, undef, undef, undef, undef, undef, undef, undef, undef, u 18, undef, undef], []⟩, rfl, fun d hd => by cases hd; exact (by decide : 62 < 64), ?_⟩)
                have e18 : u 18 = _ := hR 18 (by decide)
                have k0 := keep_cell hI X0
                have k1 := keep_cell hI X1
                have k2 := keep_cell hI X2
                have k3 := keep_cell hI Y0
                have k4 := keep_cell hI Y1
                have k5 := keep_cell hI Y2
                have HI := Lib.hid hI
                clear hI hst hR
                rw [e18]
                clear e18
                go_wp2
                exact ⟨rfl, _, rfl, rfl, HI.out, fun _ _ h => h⟩
              · refine .inr (Owes.mk _ rfl rfl (fun _ _ h => by cases h) fun u m w' hm hI hR => ⟨⟨#[undef, undef, undef, undef, undef, undef, undef, undef, undef, undef, undef, undef, undef, undef, undef, undef, undef, undef, undef, undef, undef, undef, undef, undef, undef, undef, undef, undef, undef, undef, undef, undef, undef, undef, undef, undef, undef, undef, undef, undef, undef, undef, undef, undef, undef, undef, undef, undef, undef, undef, undef, undef, undef, undef, undef, undef, undef, undef, undef, undef, u 17, undef, u 19, undef], []⟩, rfl, fun d hd => by cases hd; exact (by decide : 63 < 64), ?_⟩)
                have e17 : u 17 = _ := hR 17 (by decide)
                have e19 : u 19 = _ := hR 19 (by decide)
                have k0 := keep_cell hI X0
                have k1 := keep_cell hI X1
                have k2 := keep_cell hI X2
                have k3 := keep_cell hI Y0
                have k4 := keep_cell hI Y1
                have k5 := keep_cell hI Y2
                have HI := Lib.hid hI
                clear hI hst hR
                rw [e17, e19]
                clear e17 e19
                go_wp2
                exact ⟨rfl, _, rfl, rfl, HI.out, fun _ _ h => h⟩
              · refine .inr (Owes.mk _ rfl rfl (fun _ _ h => by cases h) fun u m w' hm hI hR => ⟨⟨#[undef, undef, undef, undef, undef, undef, undef, undef, undef, undef, undef, undef, undef, undef, undef, undef, undef, undef, undef, undef, undef, undef, undef, undef, undef, undef, undef, undef, undef, undef, undef, undef, undef, undef, undef, undef, undef, undef, undef, undef, undef, undef, undef, undef, undef, undef, undef, undef, undef, undef, undef, undef, undef, undef, undef, undef, undef, undef, undef, undef, undef, undef, undef, u 20], []⟩, rfl, fun d hd => by cases hd; exact (by decide : 4 < 64), ?_⟩)
                have e20 : u 20 = _ := hR 20 (by decide)
                have k0 := keep_cell hI X0
                have k1 := keep_cell hI X1
                have k2 := keep_cell hI X2
                have k3 := keep_cell hI Y0
                have k4 := keep_cell hI Y1
                have k5 := keep_cell hI Y2
                have HI := Lib.hid hI
                clear hI hst hR
                rw [e20]
                clear e20
                go_wp2
                exact ⟨rfl, _, rfl, rfl, HI.out, fun _ _ h => h⟩
            case hend =>
              intro u w' hI hR
              simp only [setAll, List.set_cons_zero, List.set_cons_succ]
              unfold wpList
              have e21 : u 21 = _ := hR 21 (by decide)
              rw [e21]
              have HBw := Lib.hid (B8.out.trans (hI.mono B8.out.size))
              clear hR hI hst e21
              go_wp2
              go_ret
              exact ⟨rfl, HBw.out⟩

theorem hpow : Rows.fnRspTextRow.laid.filter (fun x => x.1 == "internal/strconv.uint64pow10") = [("internal/strconv.uint64pow10", Lib.tabData .u64 Lib.pow10Tab)] := by kernel_rfl
theorem hwords : Rows.fnRspTextRow.laid.filter (fun x => x.1 == "loop.example/crossyard/impl.rspWords") = [("loop.example/crossyard/impl.rspWords", wordsD rspWords)] := by kernel_rfl
theorem door_met (os : Os) (args : Array Value) : laidMetH Tryd.prog Rows.fnRspTextRow.laid ((World.doorLaid Tryd.prog 4000 os).forCall (fun _ _ => 0) ⟨#[], args, []⟩).memory :=
  laidMetH_of_parts3 (fuel := 8) (laidMet_of_run' 8 (by kernel_rfl) (by kernel_rfl)) (by kernel_rfl) (by kernel_rfl)
set_option maxRecDepth 100000 in
theorem lifted (os : Os) (started : os.Started) (H : Type) (enc : TypeId × Value → H) :
    ReturnsInHanded {} Tryd.checked os 5 .any (fun w args => (Rows.fnRspTextSpec.pre enc Tryd.prog Tryd.f5 [] false w args ∧ laidMetH Tryd.prog Rows.fnRspTextRow.laid w) ∧ sizedMet enc Tryd.prog Tryd.f5 (OpenSpec.ofChange Rows.fnRspTextSpec) false w args)
      (Rows.fnRspTextSpec.post enc Tryd.prog Tryd.f5 false true false false) := by
  refine returnsInHanded_of_change_and (C := Tryd.checked) (X := fun w _ => laidMetH Tryd.prog Rows.fnRspTextRow.laid w) (fun _ _ _ hh h => h.of_heap hh) own started (by kernel_rfl) Tryd.func5
    (ChangeSpec.witness_shaped (enc := enc) (C := Tryd.checked) (os := os) (X := fun w _ => laidMetH Tryd.prog Rows.fnRspTextRow.laid w) false (World.doorLaid Tryd.prog 4000 os) #[.slice none 0 0, .slice none 0 0] 8 rfl (World.shaped_of_RefB (by kernel_rfl) (by kernel_rfl)) (by kernel_rfl) (by kernel_rfl) (by kernel_rfl) (door_met os _)) ?_
  intro W base args ds gs before hval0 hW _ _ hL _
  have hval : ∀ (j : Nat) t v, Tryd.f5.params[j]? = some t → args[j]? = some v → Value.okWide Tryd.prog W .any base t v := hval0
  have hW' := hW
  obtain ⟨p, q, hA0, hV, rfl, hfz, hnd⟩ := hW
  have hA : DataW.TrodAll enc Tryd.prog W 0 (fun _ => true) true Tryd.f5.params.toList args.toList ds p := hA0
  rw [Tryd.params5] at hA hval
  obtain ⟨v0, vs0, d0, ds0, p0, q0, hargs, rfl, rfl, h0, r0⟩ := trodAll_cons hA
  obtain ⟨v1, vs1, d1, ds1, p1, q1, rfl, rfl, rfl, h1, r1⟩ := trodAll_cons r0
  obtain ⟨rfl, rfl, rfl⟩ := trodAll_nil r1
  obtain rfl : args = #[v0, v1] := by cases args; simp_all
  have hV0 := hV
  obtain ⟨_, _, _, _, _, _, rfl, _, _, _, _, _⟩ := trodVars_one hV0
  clear hA0 hval0
  have hlt0 : ∀ x ∈ p0, x.block < W.heap.size := fun x hx => by simpa using hW'.lt x (by simp [hx])
  have hk0 := h0
  obtain ⟨ad0, len0, cap0, rfl⟩ := okWide_slice Tryd.underlying39 (hval 0 39 v0 rfl rfl)
  obtain ⟨fuel0, hf0⟩ := h0
  obtain ⟨x0, fp0, y0, e0, g0⟩ := (opens_slice Tryd.underlying39 (by kernel_rfl) (by decide) (opens_byte Tryd.underlying5) byteR_fits) hf0
  obtain rfl : .slice ad0 len0 cap0 = y0 := by simpa [Value.cells] using e0
  have hlt1 : ∀ x ∈ p1, x.block < W.heap.size := fun x hx => by simpa using hW'.lt x (by simp [hx])
  have hk1 := h1
  obtain ⟨ad1, len1, cap1, rfl⟩ := okWide_slice Tryd.underlying39 (hval 1 39 v1 rfl rfl)
  obtain ⟨fuel1, hf1⟩ := h1
  obtain ⟨x1, fp1, y1, e1, g1⟩ := (opens_slice Tryd.underlying39 (by kernel_rfl) (by decide) (opens_byte Tryd.underlying5) byteR_fits) hf1
  obtain rfl : .slice ad1 len1 cap1 = y1 := by simpa [Value.cells] using e1
  refine (walk (.slice ad0 len0 cap0) x0 fp0 (.slice ad1 len1 cap1) x1 fp1 W g0 g1 (pow_of hpow hL) (words_of (by decide) (by kernel_rfl) (by kernel_rfl) hwords hL)).mono fun e W' ⟨he, hb⟩ => ?_
  subst he
  exact ⟨_, rfl, _, _, _, [], _, q, hW', (trodAll_cons_mk (shut_bool Tryd.underlying4 _) trodAll_mk0), (trodAll_cons_mk (Below.trod laidOut (by kernel_rfl) (of_decide_eq_true (by kernel_rfl)) hk0 hb hlt0) (trodAll_cons_mk (Below.trod laidOut (by kernel_rfl) (of_decide_eq_true (by kernel_rfl)) hk1 hb hlt1) trodAll_mk0)), hb.trodVars laidOut (by kernel_rfl) hV, hb.frame _, fun h => by cases h⟩

theorem over : Rows.fnRspTextRow.holds Tryd.pinned (OpenSpec.ofChange Rows.fnRspTextSpec) :=
  OpenClaim.holds_of_wide 5 Tryd.f5 rfl rfl rfl rfl rfl rfl rfl ⟨rfl, rfl, rfl, rfl, rfl⟩ rfl rfl rfl rfl rfl (by kernel_rfl) Tryd.func5 (by kernel_rfl)
    (of_decide_eq_true (by kernel_rfl)) (by unfold Func.isWrapper; first | (rw [if_pos (by decide +kernel)]; kernel_rfl) | (rw [if_neg (by decide +kernel)]; exact ⟨rfl, rfl⟩))
    (fun os started H enc _ => lifted os started H enc)

theorem proved : Rows.FnRspTextCardSaid :=
  Claim7.holds_tied_plain_at .later [] [.data,.data,.data,.data] true (true, "e417f15a72d73d6417c807500a0c54e876089ad537866bc54c52dba4e83b9c50") false
    over (fun _ h => by cases h) (by kernel_rfl) (fun _ h => by cases h) fnRspText_row_tie rfl ⟨rfl, rfl⟩ (by kernel_rfl) rfl
    (fun f fn hf hfn => by
      obtain rfl : f = 5 := Option.some.inj ((show Tryd.prog.funcNamed "loop.example/crossyard/laws.FnRspText" = some 5 by kernel_rfl).symm.trans hf) |>.symm
      obtain rfl : fn = Tryd.f5 := (Option.some.inj (Tryd.func5.symm.trans hfn)).symm
      exact ⟨by kernel_rfl, fun j t ht => by
        rw [Tryd.params5] at ht
        have hm : t ∈ [39] := by simpa using Array.mem_of_getElem? ht
        have hall : ([39].all fun u => !Tryd.prog.wantsStandIn u) = true := by kernel_rfl
        exact (show Tryd.prog.wantsStandIn t = false by simpa using List.all_eq_true.1 hall t hm)⟩)
    (by kernel_rfl)
#print axioms proved
end Go.Proofs.YtaeiddoccfaheaaDoor.fnRspText
