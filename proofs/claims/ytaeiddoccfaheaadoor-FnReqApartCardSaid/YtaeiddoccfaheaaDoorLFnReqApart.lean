/-
  Proved: the card of the Go function laws.FnReqApart: it returns true for all arguments: of two things that are ok ReqText is the same just if they are; and a text is empty just of what is not ok.
  Conditions: none beyond the card's own (its listed variables start as the program's text lays them).
-/
import Derived.Test.YtaeiddoccfaheaaDoorLift
import Derived.Test.YtaeiddoccfaheaaDoorCardF
import Derived.Test.YtaeiddoccfaheaaDoorTok
import Derived.Test.YtaeiddoccfaheaaDoorReqText2
import Derived.Test.YtaeiddoccfaheaaDoorDReqOk
import Derived.Test.YtaeiddoccfaheaaDoorCr
import Derived.Test.YtaeiddoccfaheaaDoorCrReq
import Derived.Test.YtaeiddoccfaheaaDoorFacts2
import Derived.Test.YtaeiddoccfaheaaDoorCards
import Derived.Test.YtaeiddoccfaheaaDoorTie
import Derived.OpenVars
import Derived.SevenTiedAt
namespace Go.Proofs.YtaeiddoccfaheaaDoor.fnReqApart
set_option linter.unusedVariables false
set_option linter.unusedSimpArgs false
open Go.ChangeShapes Go.WideShapes Go.ChangeAt Go.RowKit

theorem word_no (c : Int) : (32 : UInt8) ∉ reqWord c := by
  unfold reqWord
  split
  · decide
  · split
    · decide
    · split <;> decide
theorem word_inj {c d : Int} (hc : 1 ≤ c ∧ c ≤ 4) (hd : 1 ≤ d ∧ d ≤ 4) (h : reqWord c = reqWord d) : c = d := by
  have h1 : c = 1 ∨ c = 2 ∨ c = 3 ∨ c = 4 := by omega
  have h2 : d = 1 ∨ d = 2 ∨ d = 3 ∨ d = 4 := by omega
  rcases h1 with rfl | rfl | rfl | rfl <;> rcases h2 with rfl | rfl | rfl | rfl <;> first | rfl | exact absurd h (by decide)
def dg (n : Int) : List UInt8 := Lib.decDigits n.toNat
def rt (b : Bool) : List (List UInt8) := if b = true then [[114, 111, 117, 110, 100]] else []
def pt (l : List (Int × Int)) : List (List UInt8) := l.flatMap fun p => [dg p.1, dg p.2]
theorem sp_append (a b : List (List UInt8)) : sp (a ++ b) = sp a ++ sp b := by simp [sp]
theorem rnd_sp (b : Bool) : rnd b = sp (rt b) := by cases b <;> rfl
theorem prs_sp (l : List (Int × Int)) : prs l = sp (pt l) := by
  induction l with
  | nil => rfl
  | cons p l ih =>
    unfold prs pt at ih ⊢
    rw [List.flatMap_cons, List.flatMap_cons, sp_append, ih]
    simp [sp, tk, dg]
def toks (x : Req) : List (List UInt8) := [dg x.id, dg x.addr, dg x.many] ++ (rt x.wrap ++ pt (x.data.zip x.lanes))
theorem text_sp {x : Req} (h : reqOk x = true) : reqText x = reqWord x.kind ++ sp (toks x) := by
  unfold reqText toks reqHead
  rw [if_pos h, rnd_sp, prs_sp, sp_append, sp_append]
  simp [sp, tk, dg]
theorem dg_no (n : Int) : (32 : UInt8) ∉ dg n := digits_no _
theorem toks_no (x : Req) : ∀ t, t ∈ toks x → (32 : UInt8) ∉ t := fun t ht => by
  unfold toks at ht
  simp only [List.cons_append, List.nil_append, List.mem_cons, List.mem_append] at ht
  rcases ht with rfl | rfl | rfl | ht | ht
  · exact dg_no _
  · exact dg_no _
  · exact dg_no _
  · unfold rt at ht
    split at ht
    · simp only [List.mem_singleton] at ht
      subst ht
      decide
    · simp at ht
  · unfold pt at ht
    rw [List.mem_flatMap] at ht
    obtain ⟨p, _, hp⟩ := ht
    simp only [List.mem_cons, List.not_mem_nil, or_false] at hp
    rcases hp with rfl | rfl <;> exact dg_no _
theorem dg_inj {a b : Int} (ha : 0 ≤ a) (hb : 0 ≤ b) (h : dg a = dg b) : a = b := num_inj ha hb h
theorem dg_round (n : Int) : dg n ≠ [114, 111, 117, 110, 100] := fun h => by
  have := digits_range n.toNat 114 (by rw [show Lib.decDigits n.toNat = dg n from rfl, h]; simp)
  revert this
  decide
theorem pt_inj : ∀ (l m : List (Int × Int)), (∀ p, p ∈ l → 0 ≤ p.1 ∧ 0 ≤ p.2) → (∀ p, p ∈ m → 0 ≤ p.1 ∧ 0 ≤ p.2) → pt l = pt m → l = m
  | [], [], _, _, _ => rfl
  | [], q :: m, _, _, h => by simp [pt] at h
  | p :: l, [], _, _, h => by simp [pt] at h
  | p :: l, q :: m, hl, hm, h => by
    unfold pt at h
    simp only [List.flatMap_cons, List.cons_append, List.nil_append, List.cons.injEq] at h
    obtain ⟨h1, h2, h3⟩ := h
    have e1 := dg_inj (hl p (by simp)).1 (hm q (by simp)).1 h1
    have e2 := dg_inj (hl p (by simp)).2 (hm q (by simp)).2 h2
    rw [pt_inj l m (fun x hx => hl x (by simp [hx])) (fun x hx => hm x (by simp [hx])) h3]
    rw [show p = q from Prod.ext e1 e2]
theorem pt_round {l : List (Int × Int)} {P : List (List UInt8)} (h : [114, 111, 117, 110, 100] :: P = pt l) : False := by
  cases l with
  | nil => simp [pt] at h
  | cons p l =>
    unfold pt at h
    simp only [List.flatMap_cons, List.cons_append, List.nil_append, List.cons.injEq] at h
    exact dg_round p.1 h.1.symm
theorem text_inj {x y : Req} (hx : reqOk x = true) (hy : reqOk y = true) (h : reqText x = reqText y) : x = y := by
  have fx := reqOk_facts hx
  have fy := reqOk_facts hy
  rw [text_sp hx, text_sp hy] at h
  obtain ⟨e1, e2⟩ := sp_inj _ _ _ _ (word_no _) (word_no _) (toks_no x) (toks_no y) h
  have ek := word_inj fx.kind fy.kind e1
  unfold toks at e2
  simp only [List.cons_append, List.nil_append, List.cons.injEq] at e2
  obtain ⟨h1, h2, h3, h4⟩ := e2
  have ei := dg_inj fx.id.1 fy.id.1 h1
  have ea := dg_inj fx.addr.1 fy.addr.1 h2
  have em := dg_inj (by have := fx.many; omega) (by have := fy.many; omega) h3
  have nx : ∀ p, p ∈ x.data.zip x.lanes → 0 ≤ p.1 ∧ 0 ≤ p.2 := fun p hp => ⟨(fx.dat _ (List.of_mem_zip (a := p.1) (b := p.2) hp).1).1, (fx.lan _ (List.of_mem_zip (a := p.1) (b := p.2) hp).2).1⟩
  have ny : ∀ p, p ∈ y.data.zip y.lanes → 0 ≤ p.1 ∧ 0 ≤ p.2 := fun p hp => ⟨(fy.dat _ (List.of_mem_zip (a := p.1) (b := p.2) hp).1).1, (fy.lan _ (List.of_mem_zip (a := p.1) (b := p.2) hp).2).1⟩
  have hwp : x.wrap = y.wrap ∧ x.data.zip x.lanes = y.data.zip y.lanes := by
    cases q1 : x.wrap <;> cases q2 : y.wrap <;> rw [q1, q2] at h4
    · exact ⟨rfl, pt_inj _ _ nx ny (by simpa [rt] using h4)⟩
    · exact absurd (show [114, 111, 117, 110, 100] :: pt (y.data.zip y.lanes) = pt (x.data.zip x.lanes) by simpa [rt] using h4.symm) (fun e => pt_round e)
    · exact absurd (show [114, 111, 117, 110, 100] :: pt (x.data.zip x.lanes) = pt (y.data.zip y.lanes) by simpa [rt] using h4) (fun e => pt_round e)
    · exact ⟨rfl, pt_inj _ _ nx ny (by simpa [rt] using h4)⟩
  have ed : x.data = y.data := by
    have := congrArg (List.map Prod.fst) hwp.2
    rwa [List.map_fst_zip (Nat.le_of_eq fx.lanes.symm), List.map_fst_zip (Nat.le_of_eq fy.lanes.symm)] at this
  have el : x.lanes = y.lanes := by
    have := congrArg (List.map Prod.snd) hwp.2
    rwa [List.map_snd_zip (Nat.le_of_eq fx.lanes), List.map_snd_zip (Nat.le_of_eq fy.lanes)] at this
  obtain ⟨_, _, _, _, _, _, _⟩ := x
  obtain ⟨_, _, _, _, _, _, _⟩ := y
  simp only at ei ek ea em ed el hwp
  rw [ei, ek, ea, em, hwp.1, ed, el]
theorem word_ne (c : Int) : reqWord c ≠ [] := by
  unfold reqWord
  split
  · decide
  · split
    · decide
    · split <;> decide
theorem text_ne {x : Req} (hx : reqOk x = true) : reqText x ≠ [] := fun h => by
  rw [text_sp hx] at h
  exact word_ne _ (List.append_eq_nil_iff.1 h).1
theorem str_beq (a b : List UInt8) : ((⟨a.toArray⟩ : ByteArray) == ⟨b.toArray⟩) = decide (a = b) := by
  show (a.toArray == b.toArray) = _
  by_cases h : a = b
  · subst h; simp
  · simp [h]

theorem not_empty {s : ByteArray} (h : (s == ⟨#[]⟩) = false) : s.toList.isEmpty = false := by
  rw [beq_toListBytes] at h
  have e : (⟨#[]⟩ : ByteArray).toList = [] := by unfold ByteArray.toList; rw [ByteArray.toList.loop]; rfl
  rw [e] at h
  cases hl : s.toList with
  | nil => rw [hl] at h; cases h
  | cons x l => rfl


set_option maxRecDepth 100000 in
set_option maxHeartbeats 12800000 in
theorem walk (v0 : Value) (l0 : List Int) (fp0 : List Nat) (v1 : Value) (l1 : List Int) (fp1 : List Nat) (w : World) (g0 : ByteS w l0 v0 fp0) (g1 : ByteS w l1 v1 fp1) (hp : Pow w) (hw : Words 1 reqWords w) :
    Calls Tryd.prog 6 #[v0, v1] w fun e w' => e = .returned (.bool true) ∧ Below w.heap.size w w' := by
  obtain ⟨a0, n0, c0, rfl, _⟩ := g0.opened
  obtain ⟨a1, n1, c1, rfl, _⟩ := g1.opened
  have HP := Lib.hid hp
  have HW := Lib.hid hw
  have K0 := Lib.hid g0
  have K1 := Lib.hid g1
  clear g0 g1 hp hw
  by_cases hb : 1048576 < n0
  · go_enter Tryd.func6, Tryd.ntmps6
    go_wp2
    go_ret
    exact ⟨rfl, Below.refl _ _⟩
  · by_cases hb1 : 1048576 < n1
    · go_enter Tryd.func6, Tryd.ntmps6
      go_wp2
      go_ret
      exact ⟨rfl, Below.refl _ _⟩
    · go_enter Tryd.func6, Tryd.ntmps6
      go_wp2_with fail
      refine (drawReqText_any _ l0 fp0 w K0.out).mono ?_
      rintro e w1 ⟨x, vx, vxl, fx, fxl, rfl, sx, sxl, -, -, b1⟩
      obtain ⟨xa, xn, xc, rfl⟩ := sx.form
      obtain ⟨ya, yn, yc, rfl⟩ := sxl.form
      obtain ⟨w2, hw2⟩ : ∃ z, z = w1.alloc (.cells #[.int .i64 x.id, .int .i64 x.kind, .int .i64 x.addr, .int .i64 x.many, .bool x.wrap, .slice xa xn xc, .slice ya yn yc] 35) := ⟨_, rfl⟩
      have b2 : Below w1.heap.size w1 w2 := by rw [hw2]; exact below_alloc _ _
      have cx : ∀ j (hj : j < 7), w2.cell? ⟨w1.heap.size, j, none⟩ = some ((#[.int .i64 x.id, .int .i64 x.kind, .int .i64 x.addr, .int .i64 x.many, .bool x.wrap, .slice xa xn xc, .slice ya yn yc] : Array Value)[j]'hj) := fun j hj => by rw [hw2]; exact alloc1_new _ _ _ j (by simp [show j < 7 from hj])
      have SX0 := Lib.hid (SlR.below intR_fits sx b2)
      have SX1 := Lib.hid (SlR.below intR_fits sxl b2)
      have B2 := Lib.hid (b1.trans (b2.mono b1.size))
      go_upto_region 4 with fail
      rw [← hw2]
      obtain ⟨bx, hbx⟩ : ∃ z, z = w1.heap.size := ⟨_, rfl⟩
      rw [← hbx] at cx
      rw [← hbx]
      have CX := Lib.hid cx
      clear hw2 hbx sx sxl b1 b2 cx
      go_wp2_with fail
      refine (drawReqText_any _ l1 fp1 w2 (SlR.below byteR_fits K1.out B2.out)).mono ?_
      rintro e w3 ⟨y, vy, vyl, fy, fyl, rfl, sy, syl, -, -, b3⟩
      obtain ⟨za, zn, zc, rfl⟩ := sy.form
      obtain ⟨ta, tn, tc, rfl⟩ := syl.form
      obtain ⟨w4, hw4⟩ : ∃ z, z = w3.alloc (.cells #[.int .i64 y.id, .int .i64 y.kind, .int .i64 y.addr, .int .i64 y.many, .bool y.wrap, .slice za zn zc, .slice ta tn tc] 35) := ⟨_, rfl⟩
      have b4 : Below w3.heap.size w3 w4 := by rw [hw4]; exact below_alloc _ _
      have cy : ∀ j (hj : j < 7), w4.cell? ⟨w3.heap.size, j, none⟩ = some ((#[.int .i64 y.id, .int .i64 y.kind, .int .i64 y.addr, .int .i64 y.many, .bool y.wrap, .slice za zn zc, .slice ta tn tc] : Array Value)[j]'hj) := fun j hj => by rw [hw4]; exact alloc1_new _ _ _ j (by simp [show j < 7 from hj])
      have b24 : Below w2.heap.size w2 w4 := b3.trans (b4.mono b3.size)
      have SY0 := Lib.hid (SlR.below intR_fits sy b4)
      have SY1 := Lib.hid (SlR.below intR_fits syl b4)
      have nX0 := Lib.hid (SlR.below intR_fits SX0.out b24)
      have nX1 := Lib.hid (SlR.below intR_fits SX1.out b24)
      have nCX := Lib.hid (fun (j : Nat) (hj : j < 7) => keep_cell b24 (CX.out j hj))
      have BB := Lib.hid (B2.out.trans (b24.mono B2.out.size))
      go_upto_region 5 with fail
      rw [← hw4]
      obtain ⟨bb, hbb⟩ : ∃ z, z = w3.heap.size := ⟨_, rfl⟩
      rw [← hbb] at cy
      rw [← hbb]
      have CY := Lib.hid cy
      clear hw4 hbb sy syl b3 b4 b24 B2 cy SX0 SX1 CX
      have SX0 := Lib.hid nX0.out
      have SX1 := Lib.hid nX1.out
      have CX := Lib.hid nCX.out
      clear nX0 nX1 nCX
      have x0 := CX.out 0 (by decide)
      have x1 := CX.out 1 (by decide)
      have x2 := CX.out 2 (by decide)
      have x3 := CX.out 3 (by decide)
      have x4 := CX.out 4 (by decide)
      have x5 := CX.out 5 (by decide)
      have x6 := CX.out 6 (by decide)
      have y0 := CY.out 0 (by decide)
      have y1 := CY.out 1 (by decide)
      have y2 := CY.out 2 (by decide)
      have y3 := CY.out 3 (by decide)
      have y4 := CY.out 4 (by decide)
      have y5 := CY.out 5 (by decide)
      have y6 := CY.out 6 (by decide)
      simp only [List.getElem_toArray, List.getElem_cons_zero, List.getElem_cons_succ] at x0 x1 x2 x3 x4 x5 x6 y0 y1 y2 y3 y4 y5 y6
      go_wp2_with fail
      refine (iReqText_any x _ _ fx fxl _ SX0.out SX1.out (HP.out.below BB.out) (HW.out.below BB.out)).mono ?_
      rintro e w5 ⟨rfl, b5⟩
      obtain ⟨sa, hsa⟩ : ∃ s : ByteArray, s = ⟨(reqText x).toArray⟩ := ⟨_, rfl⟩
      rw [← hsa]
      have HSA := Lib.hid hsa
      clear hsa
      have Bn := Lib.hid (BB.out.trans (b5.mono BB.out.size))
      have nX0 := Lib.hid (SlR.below intR_fits SX0.out b5)
      have nX1 := Lib.hid (SlR.below intR_fits SX1.out b5)
      have nY0 := Lib.hid (SlR.below intR_fits SY0.out b5)
      have nY1 := Lib.hid (SlR.below intR_fits SY1.out b5)
      have nCX := Lib.hid (fun (j : Nat) (hj : j < 7) => keep_cell b5 (CX.out j hj))
      have nCY := Lib.hid (fun (j : Nat) (hj : j < 7) => keep_cell b5 (CY.out j hj))
      clear b5 SX0 SX1 SY0 SY1 CX CY BB x0 x1 x2 x3 x4 x5 x6 y0 y1 y2 y3 y4 y5 y6
      have SX0 := Lib.hid nX0.out
      have SX1 := Lib.hid nX1.out
      have SY0 := Lib.hid nY0.out
      have SY1 := Lib.hid nY1.out
      have CX := Lib.hid nCX.out
      have CY := Lib.hid nCY.out
      have BB := Lib.hid Bn.out
      clear nX0 nX1 nY0 nY1 nCX nCY Bn
      have x0 := CX.out 0 (by decide)
      have x1 := CX.out 1 (by decide)
      have x2 := CX.out 2 (by decide)
      have x3 := CX.out 3 (by decide)
      have x4 := CX.out 4 (by decide)
      have x5 := CX.out 5 (by decide)
      have x6 := CX.out 6 (by decide)
      have y0 := CY.out 0 (by decide)
      have y1 := CY.out 1 (by decide)
      have y2 := CY.out 2 (by decide)
      have y3 := CY.out 3 (by decide)
      have y4 := CY.out 4 (by decide)
      have y5 := CY.out 5 (by decide)
      have y6 := CY.out 6 (by decide)
      simp only [List.getElem_toArray, List.getElem_cons_zero, List.getElem_cons_succ] at x0 x1 x2 x3 x4 x5 x6 y0 y1 y2 y3 y4 y5 y6
      go_wp2_with fail
      refine (sReqText_any x _ _ fx fxl _ SX0.out SX1.out).mono ?_
      rw [← HSA.out]
      rintro e w6 ⟨rfl, b6⟩
      have Bn := Lib.hid (BB.out.trans (b6.mono BB.out.size))
      have nX0 := Lib.hid (SlR.below intR_fits SX0.out b6)
      have nX1 := Lib.hid (SlR.below intR_fits SX1.out b6)
      have nY0 := Lib.hid (SlR.below intR_fits SY0.out b6)
      have nY1 := Lib.hid (SlR.below intR_fits SY1.out b6)
      have nCX := Lib.hid (fun (j : Nat) (hj : j < 7) => keep_cell b6 (CX.out j hj))
      have nCY := Lib.hid (fun (j : Nat) (hj : j < 7) => keep_cell b6 (CY.out j hj))
      clear b6 SX0 SX1 SY0 SY1 CX CY BB x0 x1 x2 x3 x4 x5 x6 y0 y1 y2 y3 y4 y5 y6
      have SX0 := Lib.hid nX0.out
      have SX1 := Lib.hid nX1.out
      have SY0 := Lib.hid nY0.out
      have SY1 := Lib.hid nY1.out
      have CX := Lib.hid nCX.out
      have CY := Lib.hid nCY.out
      have BB := Lib.hid Bn.out
      clear nX0 nX1 nY0 nY1 nCX nCY Bn
      have x0 := CX.out 0 (by decide)
      have x1 := CX.out 1 (by decide)
      have x2 := CX.out 2 (by decide)
      have x3 := CX.out 3 (by decide)
      have x4 := CX.out 4 (by decide)
      have x5 := CX.out 5 (by decide)
      have x6 := CX.out 6 (by decide)
      have y0 := CY.out 0 (by decide)
      have y1 := CY.out 1 (by decide)
      have y2 := CY.out 2 (by decide)
      have y3 := CY.out 3 (by decide)
      have y4 := CY.out 4 (by decide)
      have y5 := CY.out 5 (by decide)
      have y6 := CY.out 6 (by decide)
      simp only [List.getElem_toArray, List.getElem_cons_zero, List.getElem_cons_succ] at x0 x1 x2 x3 x4 x5 x6 y0 y1 y2 y3 y4 y5 y6
      go_wp2_with fail
      refine (sReqOk_any x _ _ fx fxl _ SX0.out SX1.out).mono ?_
      rintro e w7 ⟨rfl, b7⟩
      have Bn := Lib.hid (BB.out.trans (b7.mono BB.out.size))
      have nX0 := Lib.hid (SlR.below intR_fits SX0.out b7)
      have nX1 := Lib.hid (SlR.below intR_fits SX1.out b7)
      have nY0 := Lib.hid (SlR.below intR_fits SY0.out b7)
      have nY1 := Lib.hid (SlR.below intR_fits SY1.out b7)
      have nCX := Lib.hid (fun (j : Nat) (hj : j < 7) => keep_cell b7 (CX.out j hj))
      have nCY := Lib.hid (fun (j : Nat) (hj : j < 7) => keep_cell b7 (CY.out j hj))
      clear b7 SX0 SX1 SY0 SY1 CX CY BB x0 x1 x2 x3 x4 x5 x6 y0 y1 y2 y3 y4 y5 y6
      have SX0 := Lib.hid nX0.out
      have SX1 := Lib.hid nX1.out
      have SY0 := Lib.hid nY0.out
      have SY1 := Lib.hid nY1.out
      have CX := Lib.hid nCX.out
      have CY := Lib.hid nCY.out
      have BB := Lib.hid Bn.out
      clear nX0 nX1 nY0 nY1 nCX nCY Bn
      have x0 := CX.out 0 (by decide)
      have x1 := CX.out 1 (by decide)
      have x2 := CX.out 2 (by decide)
      have x3 := CX.out 3 (by decide)
      have x4 := CX.out 4 (by decide)
      have x5 := CX.out 5 (by decide)
      have x6 := CX.out 6 (by decide)
      have y0 := CY.out 0 (by decide)
      have y1 := CY.out 1 (by decide)
      have y2 := CY.out 2 (by decide)
      have y3 := CY.out 3 (by decide)
      have y4 := CY.out 4 (by decide)
      have y5 := CY.out 5 (by decide)
      have y6 := CY.out 6 (by decide)
      simp only [List.getElem_toArray, List.getElem_cons_zero, List.getElem_cons_succ] at x0 x1 x2 x3 x4 x5 x6 y0 y1 y2 y3 y4 y5 y6
      cases qx : reqOk x
      · have hse : sa = ⟨#[]⟩ := by rw [HSA.out]; unfold reqText; rw [qx]; rfl
        have QX := Lib.hid qx
        subst hse
        clear qx
        go_wp2_with fail
        refine (sReqOk_any x _ _ fx fxl _ SX0.out SX1.out).mono ?_
        rw [QX.out]
        rintro e w8 ⟨rfl, b8⟩
        have B8 := Lib.hid (BB.out.trans (b8.mono BB.out.size))
        clear b8 BB SX0 SX1 SY0 SY1 CX CY x0 x1 x2 x3 x4 x5 x6 y0 y1 y2 y3 y4 y5 y6
        go_wp2_with fail
        refine (crOk_any _).mono ?_
        rintro e w9 ⟨rfl, rfl⟩
        go_wp2
        go_ret
        exact ⟨rfl, B8.out⟩
      · have hne : (sa == ⟨#[]⟩) = false := by
          rw [HSA.out, show (⟨#[]⟩ : ByteArray) = ⟨([] : List UInt8).toArray⟩ from rfl, str_beq, decide_eq_false (text_ne qx)]
        have hne2 : sa.toList.isEmpty = false := not_empty hne
        have QX := Lib.hid qx
        have HNE := Lib.hid hne2
        clear qx hne hne2
        go_wp2_with fail
        refine (sReqOk_any y _ _ fy fyl _ SY0.out SY1.out).mono ?_
        rintro e w8 ⟨rfl, b8⟩
        have Bn := Lib.hid (BB.out.trans (b8.mono BB.out.size))
        have nX0 := Lib.hid (SlR.below intR_fits SX0.out b8)
        have nX1 := Lib.hid (SlR.below intR_fits SX1.out b8)
        have nY0 := Lib.hid (SlR.below intR_fits SY0.out b8)
        have nY1 := Lib.hid (SlR.below intR_fits SY1.out b8)
        have nCX := Lib.hid (fun (j : Nat) (hj : j < 7) => keep_cell b8 (CX.out j hj))
        have nCY := Lib.hid (fun (j : Nat) (hj : j < 7) => keep_cell b8 (CY.out j hj))
        clear b8 SX0 SX1 SY0 SY1 CX CY BB x0 x1 x2 x3 x4 x5 x6 y0 y1 y2 y3 y4 y5 y6
        have SX0 := Lib.hid nX0.out
        have SX1 := Lib.hid nX1.out
        have SY0 := Lib.hid nY0.out
        have SY1 := Lib.hid nY1.out
        have CX := Lib.hid nCX.out
        have CY := Lib.hid nCY.out
        have BB := Lib.hid Bn.out
        clear nX0 nX1 nY0 nY1 nCX nCY Bn
        have x0 := CX.out 0 (by decide)
        have x1 := CX.out 1 (by decide)
        have x2 := CX.out 2 (by decide)
        have x3 := CX.out 3 (by decide)
        have x4 := CX.out 4 (by decide)
        have x5 := CX.out 5 (by decide)
        have x6 := CX.out 6 (by decide)
        have y0 := CY.out 0 (by decide)
        have y1 := CY.out 1 (by decide)
        have y2 := CY.out 2 (by decide)
        have y3 := CY.out 3 (by decide)
        have y4 := CY.out 4 (by decide)
        have y5 := CY.out 5 (by decide)
        have y6 := CY.out 6 (by decide)
        simp only [List.getElem_toArray, List.getElem_cons_zero, List.getElem_cons_succ] at x0 x1 x2 x3 x4 x5 x6 y0 y1 y2 y3 y4 y5 y6
        cases qy : reqOk y
        · have hne := HNE.out
          have QY := Lib.hid qy
          clear qy
          go_wp2_with fail
          refine (sReqOk_any x _ _ fx fxl _ SX0.out SX1.out).mono ?_
          rw [QX.out]
          rintro e w9 ⟨rfl, b9⟩
          have B9 := Lib.hid (BB.out.trans (b9.mono BB.out.size))
          clear b9 BB SX0 SX1 SY0 SY1 CX CY x0 x1 x2 x3 x4 x5 x6 y0 y1 y2 y3 y4 y5 y6
          go_wp2_with fail
          refine (crOk_any _).mono ?_
          rintro e w10 ⟨rfl, rfl⟩
          go_wp2
          go_ret
          exact ⟨rfl, B9.out⟩
        · have QY := Lib.hid qy
          clear qy
          obtain ⟨sb, hsb⟩ : ∃ s : ByteArray, s = ⟨(reqText y).toArray⟩ := ⟨_, rfl⟩
          have HSB := Lib.hid hsb
          by_cases hd : x = y
          · have HD := Lib.hid hd
            have hsse : sa = sb := by rw [HSA.out, hsb, hd]
            clear hsb hd
            subst hsse
            go_upto_region 10 with fail
            have hst : ∀ F, F ∈ [FEq (.string sa), FEq (.agg #[.int .i64 y.id, .int .i64 y.kind, .int .i64 y.addr, .int .i64 y.many, .bool y.wrap, .slice za zn zc, .slice ta tn tc]), FEq (.string sa), FEq (.bool true), FEq (.agg #[.int .i64 x.id, .int .i64 x.kind, .int .i64 x.addr, .int .i64 x.many, .bool x.wrap, .slice xa xn xc, .slice ya yn yc]), FEq (.agg #[.int .i64 y.id, .int .i64 y.kind, .int .i64 y.addr, .int .i64 y.many, .bool y.wrap, .slice za zn zc, .slice ta tn tc]), FEq (.bool true), FEq (.bool true), FEq (.bool true)] → Stable [] F := by
              simp only [List.forall_mem_cons]
              exact ⟨stEq _ _, stEq _ _, stEq _ _, stEq _ _, stEq _ _, stEq _ _, stEq _ _, stEq _ _, stEq _ _, fun _ h => by simp at h⟩
            refine wp_region_tail (by kernel_rfl) (fun i => ([[], [], [1], [0, 1, 2], [], [], [1, 2, 4, 5], [0, 1, 2, 3, 4, 5, 6], [0, 1, 2, 3, 4, 5, 6, 7]] : List (List Nat)).getD i []) (facts [FEq (.string sa), FEq (.agg #[.int .i64 y.id, .int .i64 y.kind, .int .i64 y.addr, .int .i64 y.many, .bool y.wrap, .slice za zn zc, .slice ta tn tc]), FEq (.string sa), FEq (.bool true), FEq (.agg #[.int .i64 x.id, .int .i64 x.kind, .int .i64 x.addr, .int .i64 x.many, .bool x.wrap, .slice xa xn xc, .slice ya yn yc]), FEq (.agg #[.int .i64 y.id, .int .i64 y.kind, .int .i64 y.addr, .int .i64 y.many, .bool y.wrap, .slice za zn zc, .slice ta tn tc]), FEq (.bool true), FEq (.bool true), FEq (.bool true)]) (fun m w' => Below w8.heap.size w8 w') 51 9 9 [some 43, some 44, some 45, some 46, some 47, some 48, some 49, some 50, some 4] [] rfl rfl (by decide) rfl rfl (by kernel_rfl) (by kernel_rfl) [] (by kernel_rfl) (fun g b hm v w h => by simp at hm) ?h0 (all_lt (n := 9) ?hop) ?hend
            case h0 => exact (Below.refl _ _).drew
            case hop =>
              refine ⟨⟨⟨⟨⟨⟨⟨⟨⟨trivial, ?_⟩, ?_⟩, ?_⟩, ?_⟩, ?_⟩, ?_⟩, ?_⟩, ?_⟩, ?_⟩
              · refine Owes.mk _ rfl rfl (fun _ _ h => by cases h) fun u m w' hm hI hR => ⟨⟨#[undef, undef, undef, undef, undef, undef, undef, .string sa, undef, undef, undef, undef, undef, undef, undef, undef, undef, undef, undef, undef, undef, undef, undef, undef, undef, undef, undef, undef, undef, undef, undef, undef, undef, undef, undef, undef, undef, undef, undef, undef, undef, undef, undef, undef, undef, undef, undef, undef, undef, undef, undef], []⟩, rfl, fun d hd => by cases hd; exact (by decide : 43 < 51), ?_⟩
                have k0 := keep_cell hI x0
                have k1 := keep_cell hI x1
                have k2 := keep_cell hI x2
                have k3 := keep_cell hI x3
                have k4 := keep_cell hI x4
                have k5 := keep_cell hI x5
                have k6 := keep_cell hI x6
                have k7 := keep_cell hI y0
                have k8 := keep_cell hI y1
                have k9 := keep_cell hI y2
                have k10 := keep_cell hI y3
                have k11 := keep_cell hI y4
                have k12 := keep_cell hI y5
                have k13 := keep_cell hI y6
                have HI := Lib.hid hI
                clear hI hst hR
                go_wp2
                exact ⟨rfl, _, rfl, rfl, HI.out, fun _ _ h => h⟩
              · refine Owes.mk _ rfl rfl (fun _ _ h => by cases h) fun u m w' hm hI hR => ⟨⟨#[undef, undef, undef, undef, undef, undef, .pointer (some ⟨bb, 0, none⟩), undef, undef, undef, undef, undef, undef, undef, undef, undef, undef, undef, undef, undef, undef, undef, undef, undef, undef, undef, undef, undef, undef, undef, undef, undef, undef, undef, undef, undef, undef, undef, undef, undef, undef, undef, undef, undef, undef, undef, undef, undef, undef, undef, undef], []⟩, rfl, fun d hd => by cases hd; exact (by decide : 44 < 51), ?_⟩
                have k0 := keep_cell hI x0
                have k1 := keep_cell hI x1
                have k2 := keep_cell hI x2
                have k3 := keep_cell hI x3
                have k4 := keep_cell hI x4
                have k5 := keep_cell hI x5
                have k6 := keep_cell hI x6
                have k7 := keep_cell hI y0
                have k8 := keep_cell hI y1
                have k9 := keep_cell hI y2
                have k10 := keep_cell hI y3
                have k11 := keep_cell hI y4
                have k12 := keep_cell hI y5
                have k13 := keep_cell hI y6
                have HI := Lib.hid hI
                clear hI hst hR
                go_wp2
                exact ⟨rfl, _, rfl, rfl, HI.out, fun _ _ h => h⟩
              · refine Owes.mk _ rfl rfl (fun _ _ h => by cases h) fun u m w' hm hI hR => ⟨⟨#[undef, undef, undef, undef, undef, undef, undef, undef, undef, undef, undef, undef, undef, undef, undef, undef, undef, undef, undef, undef, undef, undef, undef, undef, undef, undef, undef, undef, undef, undef, undef, undef, undef, undef, undef, undef, undef, undef, undef, undef, undef, undef, undef, undef, u 1, undef, undef, undef, undef, undef, undef], []⟩, rfl, fun d hd => by cases hd; exact (by decide : 45 < 51), ?_⟩
                have e1 : u 1 = _ := hR 1 (by decide)
                have k0 := keep_cell hI x0
                have k1 := keep_cell hI x1
                have k2 := keep_cell hI x2
                have k3 := keep_cell hI x3
                have k4 := keep_cell hI x4
                have k5 := keep_cell hI x5
                have k6 := keep_cell hI x6
                have k7 := keep_cell hI y0
                have k8 := keep_cell hI y1
                have k9 := keep_cell hI y2
                have k10 := keep_cell hI y3
                have k11 := keep_cell hI y4
                have k12 := keep_cell hI y5
                have k13 := keep_cell hI y6
                rw [e1]
                clear e1
                have HS0 := Lib.hid (SlR.below intR_fits SY0.out hI)
                have HS1 := Lib.hid (SlR.below intR_fits SY1.out hI)
                have HPw := Lib.hid (HP.out.below (BB.out.trans (hI.mono BB.out.size)))
                have HWw := Lib.hid (HW.out.below (BB.out.trans (hI.mono BB.out.size)))
                have HI := Lib.hid hI
                have HSt := Lib.hid hst
                clear hI hst hR
                go_wp2_with fail
                refine (iReqText_any y _ _ fy fyl _ HS0.out HS1.out HPw.out HWw.out).mono ?_
                rw [← HSB.out]
                rintro e w9 ⟨rfl, b9⟩
                have HS := Lib.hid (facts_stable HSt.out (b9.chg []))
                have HI9 := Lib.hid (HI.out.trans (b9.mono HI.out.size))
                clear b9
                go_wp2
                exact ⟨rfl, _, rfl, rfl, HI9.out, HS.out⟩
              · refine Owes.mk _ rfl rfl (fun _ _ h => by cases h) fun u m w' hm hI hR => ⟨⟨#[undef, undef, undef, undef, undef, undef, undef, undef, undef, undef, undef, undef, undef, undef, undef, undef, undef, undef, undef, undef, undef, undef, undef, undef, undef, undef, undef, undef, undef, undef, undef, undef, undef, undef, undef, undef, undef, undef, undef, undef, undef, undef, undef, u 0, undef, u 2, undef, undef, undef, undef, undef], []⟩, rfl, fun d hd => by cases hd; exact (by decide : 46 < 51), ?_⟩
                have e0 : u 0 = _ := hR 0 (by decide)
                have e2 : u 2 = _ := hR 2 (by decide)
                have k0 := keep_cell hI x0
                have k1 := keep_cell hI x1
                have k2 := keep_cell hI x2
                have k3 := keep_cell hI x3
                have k4 := keep_cell hI x4
                have k5 := keep_cell hI x5
                have k6 := keep_cell hI x6
                have k7 := keep_cell hI y0
                have k8 := keep_cell hI y1
                have k9 := keep_cell hI y2
                have k10 := keep_cell hI y3
                have k11 := keep_cell hI y4
                have k12 := keep_cell hI y5
                have k13 := keep_cell hI y6
                have HI := Lib.hid hI
                clear hI hst hR
                rw [e0, e2]
                clear e0 e2
                go_wp2
                exact ⟨rfl, _, rfl, rfl, HI.out, fun _ _ h => h⟩
              · refine Owes.mk _ rfl rfl (fun _ _ h => by cases h) fun u m w' hm hI hR => ⟨⟨#[undef, undef, undef, undef, undef, .pointer (some ⟨bx, 0, none⟩), undef, undef, undef, undef, undef, undef, undef, undef, undef, undef, undef, undef, undef, undef, undef, undef, undef, undef, undef, undef, undef, undef, undef, undef, undef, undef, undef, undef, undef, undef, undef, undef, undef, undef, undef, undef, undef, undef, undef, undef, undef, undef, undef, undef, undef], []⟩, rfl, fun d hd => by cases hd; exact (by decide : 47 < 51), ?_⟩
                have k0 := keep_cell hI x0
                have k1 := keep_cell hI x1
                have k2 := keep_cell hI x2
                have k3 := keep_cell hI x3
                have k4 := keep_cell hI x4
                have k5 := keep_cell hI x5
                have k6 := keep_cell hI x6
                have k7 := keep_cell hI y0
                have k8 := keep_cell hI y1
                have k9 := keep_cell hI y2
                have k10 := keep_cell hI y3
                have k11 := keep_cell hI y4
                have k12 := keep_cell hI y5
                have k13 := keep_cell hI y6
                have HI := Lib.hid hI
                clear hI hst hR
                go_wp2
                exact ⟨rfl, _, rfl, rfl, HI.out, fun _ _ h => h⟩
              · refine Owes.mk _ rfl rfl (fun _ _ h => by cases h) fun u m w' hm hI hR => ⟨⟨#[undef, undef, undef, undef, undef, undef, .pointer (some ⟨bb, 0, none⟩), undef, undef, undef, undef, undef, undef, undef, undef, undef, undef, undef, undef, undef, undef, undef, undef, undef, undef, undef, undef, undef, undef, undef, undef, undef, undef, undef, undef, undef, undef, undef, undef, undef, undef, undef, undef, undef, undef, undef, undef, undef, undef, undef, undef], []⟩, rfl, fun d hd => by cases hd; exact (by decide : 48 < 51), ?_⟩
                have k0 := keep_cell hI x0
                have k1 := keep_cell hI x1
                have k2 := keep_cell hI x2
                have k3 := keep_cell hI x3
                have k4 := keep_cell hI x4
                have k5 := keep_cell hI x5
                have k6 := keep_cell hI x6
                have k7 := keep_cell hI y0
                have k8 := keep_cell hI y1
                have k9 := keep_cell hI y2
                have k10 := keep_cell hI y3
                have k11 := keep_cell hI y4
                have k12 := keep_cell hI y5
                have k13 := keep_cell hI y6
                have HI := Lib.hid hI
                clear hI hst hR
                go_wp2
                exact ⟨rfl, _, rfl, rfl, HI.out, fun _ _ h => h⟩
              · refine Owes.mk _ rfl rfl (fun _ _ h => by cases h) fun u m w' hm hI hR => ⟨⟨#[undef, undef, undef, undef, undef, undef, undef, undef, undef, undef, undef, undef, undef, undef, undef, undef, undef, undef, undef, undef, undef, undef, undef, undef, undef, undef, undef, undef, undef, undef, undef, undef, undef, undef, undef, undef, undef, undef, undef, undef, undef, undef, undef, undef, undef, undef, undef, u 4, u 5, undef, undef], []⟩, rfl, fun d hd => by cases hd; exact (by decide : 49 < 51), ?_⟩
                have e4 : u 4 = _ := hR 4 (by decide)
                have e5 : u 5 = _ := hR 5 (by decide)
                have k0 := keep_cell hI x0
                have k1 := keep_cell hI x1
                have k2 := keep_cell hI x2
                have k3 := keep_cell hI x3
                have k4 := keep_cell hI x4
                have k5 := keep_cell hI x5
                have k6 := keep_cell hI x6
                have k7 := keep_cell hI y0
                have k8 := keep_cell hI y1
                have k9 := keep_cell hI y2
                have k10 := keep_cell hI y3
                have k11 := keep_cell hI y4
                have k12 := keep_cell hI y5
                have k13 := keep_cell hI y6
                rw [e4, e5]
                clear e4 e5
                have HX0 := Lib.hid (SlR.below intR_fits SX0.out hI)
                have HX1 := Lib.hid (SlR.below intR_fits SX1.out hI)
                have HY0 := Lib.hid (SlR.below intR_fits SY0.out hI)
                have HY1 := Lib.hid (SlR.below intR_fits SY1.out hI)
                have HI := Lib.hid hI
                have HSt := Lib.hid hst
                clear hI hst hR
                go_wp2_with fail
                refine (crReq_any x y _ _ _ _ fx fxl fy fyl _ HX0.out HX1.out HY0.out HY1.out).mono ?_
                rw [decide_eq_true HD.out]
                rintro e w9 ⟨rfl, b9⟩
                have HS := Lib.hid (facts_stable HSt.out (b9.chg []))
                have HI9 := Lib.hid (HI.out.trans (b9.mono HI.out.size))
                clear b9
                go_wp2
                exact ⟨rfl, _, rfl, rfl, HI9.out, HS.out⟩
              · refine Owes.mk _ rfl rfl (fun _ _ h => by cases h) fun u m w' hm hI hR => ⟨⟨#[undef, undef, undef, undef, undef, undef, undef, undef, undef, undef, undef, undef, undef, undef, undef, undef, undef, undef, undef, undef, undef, undef, undef, undef, undef, undef, undef, undef, undef, undef, undef, undef, undef, undef, undef, undef, undef, undef, undef, undef, undef, undef, undef, undef, undef, undef, u 3, undef, undef, u 6, undef], []⟩, rfl, fun d hd => by cases hd; exact (by decide : 50 < 51), ?_⟩
                have e3 : u 3 = _ := hR 3 (by decide)
                have e6 : u 6 = _ := hR 6 (by decide)
                have k0 := keep_cell hI x0
                have k1 := keep_cell hI x1
                have k2 := keep_cell hI x2
                have k3 := keep_cell hI x3
                have k4 := keep_cell hI x4
                have k5 := keep_cell hI x5
                have k6 := keep_cell hI x6
                have k7 := keep_cell hI y0
                have k8 := keep_cell hI y1
                have k9 := keep_cell hI y2
                have k10 := keep_cell hI y3
                have k11 := keep_cell hI y4
                have k12 := keep_cell hI y5
                have k13 := keep_cell hI y6
                have HI := Lib.hid hI
                clear hI hst hR
                rw [e3, e6]
                clear e3 e6
                go_wp2
                exact ⟨rfl, _, rfl, rfl, HI.out, fun _ _ h => h⟩
              · refine Owes.mk _ rfl rfl (fun _ _ h => by cases h) fun u m w' hm hI hR => ⟨⟨#[undef, undef, undef, undef, undef, undef, undef, undef, undef, undef, undef, undef, undef, undef, undef, undef, undef, undef, undef, undef, undef, undef, undef, undef, undef, undef, undef, undef, undef, undef, undef, undef, undef, undef, undef, undef, undef, undef, undef, undef, undef, undef, undef, undef, undef, undef, undef, undef, undef, undef, u 7], []⟩, rfl, fun d hd => by cases hd; exact (by decide : 4 < 51), ?_⟩
                have e7 : u 7 = _ := hR 7 (by decide)
                have k0 := keep_cell hI x0
                have k1 := keep_cell hI x1
                have k2 := keep_cell hI x2
                have k3 := keep_cell hI x3
                have k4 := keep_cell hI x4
                have k5 := keep_cell hI x5
                have k6 := keep_cell hI x6
                have k7 := keep_cell hI y0
                have k8 := keep_cell hI y1
                have k9 := keep_cell hI y2
                have k10 := keep_cell hI y3
                have k11 := keep_cell hI y4
                have k12 := keep_cell hI y5
                have k13 := keep_cell hI y6
                have HI := Lib.hid hI
                clear hI hst hR
                rw [e7]
                clear e7
                go_wp2
                exact ⟨rfl, _, rfl, rfl, HI.out, fun _ _ h => h⟩
            case hend =>
              intro u w' hI hR
              simp only [setAll, List.set_cons_zero, List.set_cons_succ]
              unfold wpList
              have e8 : u 8 = _ := hR 8 (by decide)
              rw [e8]
              have HBw := Lib.hid (BB.out.trans (hI.mono BB.out.size))
              clear hR hI hst e8
              go_wp2
              go_ret
              exact ⟨rfl, HBw.out⟩
          · have HD := Lib.hid hd
            have hsse : (sa.toList == sb.toList) = false := by
              rw [← beq_toListBytes, HSA.out, hsb, str_beq, decide_eq_false (fun e => hd (text_inj QX.out QY.out e))]
            clear hsb hd
            go_upto_region 10 with fail
            have hst : ∀ F, F ∈ [FEq (.string sa), FEq (.agg #[.int .i64 y.id, .int .i64 y.kind, .int .i64 y.addr, .int .i64 y.many, .bool y.wrap, .slice za zn zc, .slice ta tn tc]), FEq (.string sb), FEq (.bool false), FEq (.agg #[.int .i64 x.id, .int .i64 x.kind, .int .i64 x.addr, .int .i64 x.many, .bool x.wrap, .slice xa xn xc, .slice ya yn yc]), FEq (.agg #[.int .i64 y.id, .int .i64 y.kind, .int .i64 y.addr, .int .i64 y.many, .bool y.wrap, .slice za zn zc, .slice ta tn tc]), FEq (.bool false), FEq (.bool true), FEq (.bool true)] → Stable [] F := by
              simp only [List.forall_mem_cons]
              exact ⟨stEq _ _, stEq _ _, stEq _ _, stEq _ _, stEq _ _, stEq _ _, stEq _ _, stEq _ _, stEq _ _, fun _ h => by simp at h⟩
            refine wp_region_tail (by kernel_rfl) (fun i => ([[], [], [1], [0, 1, 2], [], [], [1, 2, 4, 5], [0, 1, 2, 3, 4, 5, 6], [0, 1, 2, 3, 4, 5, 6, 7]] : List (List Nat)).getD i []) (facts [FEq (.string sa), FEq (.agg #[.int .i64 y.id, .int .i64 y.kind, .int .i64 y.addr, .int .i64 y.many, .bool y.wrap, .slice za zn zc, .slice ta tn tc]), FEq (.string sb), FEq (.bool false), FEq (.agg #[.int .i64 x.id, .int .i64 x.kind, .int .i64 x.addr, .int .i64 x.many, .bool x.wrap, .slice xa xn xc, .slice ya yn yc]), FEq (.agg #[.int .i64 y.id, .int .i64 y.kind, .int .i64 y.addr, .int .i64 y.many, .bool y.wrap, .slice za zn zc, .slice ta tn tc]), FEq (.bool false), FEq (.bool true), FEq (.bool true)]) (fun m w' => Below w8.heap.size w8 w') 51 9 9 [some 43, some 44, some 45, some 46, some 47, some 48, some 49, some 50, some 4] [] rfl rfl (by decide) rfl rfl (by kernel_rfl) (by kernel_rfl) [] (by kernel_rfl) (fun g b hm v w h => by simp at hm) ?h0 (all_lt (n := 9) ?hop) ?hend
            case h0 => exact (Below.refl _ _).drew
            case hop =>
              refine ⟨⟨⟨⟨⟨⟨⟨⟨⟨trivial, ?_⟩, ?_⟩, ?_⟩, ?_⟩, ?_⟩, ?_⟩, ?_⟩, ?_⟩, ?_⟩
              · refine Owes.mk _ rfl rfl (fun _ _ h => by cases h) fun u m w' hm hI hR => ⟨⟨#[undef, undef, undef, undef, undef, undef, undef, .string sa, undef, undef, undef, undef, undef, undef, undef, undef, undef, undef, undef, undef, undef, undef, undef, undef, undef, undef, undef, undef, undef, undef, undef, undef, undef, undef, undef, undef, undef, undef, undef, undef, undef, undef, undef, undef, undef, undef, undef, undef, undef, undef, undef], []⟩, rfl, fun d hd => by cases hd; exact (by decide : 43 < 51), ?_⟩
                have k0 := keep_cell hI x0
                have k1 := keep_cell hI x1
                have k2 := keep_cell hI x2
                have k3 := keep_cell hI x3
                have k4 := keep_cell hI x4
                have k5 := keep_cell hI x5
                have k6 := keep_cell hI x6
                have k7 := keep_cell hI y0
                have k8 := keep_cell hI y1
                have k9 := keep_cell hI y2
                have k10 := keep_cell hI y3
                have k11 := keep_cell hI y4
                have k12 := keep_cell hI y5
                have k13 := keep_cell hI y6
                have HI := Lib.hid hI
                clear hI hst hR
                go_wp2
                exact ⟨rfl, _, rfl, rfl, HI.out, fun _ _ h => h⟩
              · refine Owes.mk _ rfl rfl (fun _ _ h => by cases h) fun u m w' hm hI hR => ⟨⟨#[undef, undef, undef, undef, undef, undef, .pointer (some ⟨bb, 0, none⟩), undef, undef, undef, undef, undef, undef, undef, undef, undef, undef, undef, undef, undef, undef, undef, undef, undef, undef, undef, undef, undef, undef, undef, undef, undef, undef, undef, undef, undef, undef, undef, undef, undef, undef, undef, undef, undef, undef, undef, undef, undef, undef, undef, undef], []⟩, rfl, fun d hd => by cases hd; exact (by decide : 44 < 51), ?_⟩
                have k0 := keep_cell hI x0
                have k1 := keep_cell hI x1
                have k2 := keep_cell hI x2
                have k3 := keep_cell hI x3
                have k4 := keep_cell hI x4
                have k5 := keep_cell hI x5
                have k6 := keep_cell hI x6
                have k7 := keep_cell hI y0
                have k8 := keep_cell hI y1
                have k9 := keep_cell hI y2
                have k10 := keep_cell hI y3
                have k11 := keep_cell hI y4
                have k12 := keep_cell hI y5
                have k13 := keep_cell hI y6
                have HI := Lib.hid hI
                clear hI hst hR
                go_wp2
                exact ⟨rfl, _, rfl, rfl, HI.out, fun _ _ h => h⟩
              · refine Owes.mk _ rfl rfl (fun _ _ h => by cases h) fun u m w' hm hI hR => ⟨⟨#[undef, undef, undef, undef, undef, undef, undef, undef, undef, undef, undef, undef, undef, undef, undef, undef, undef, undef, undef, undef, undef, undef, undef, undef, undef, undef, undef, undef, undef, undef, undef, undef, undef, undef, undef, undef, undef, undef, undef, undef, undef, undef, undef, undef, u 1, undef, undef, undef, undef, undef, undef], []⟩, rfl, fun d hd => by cases hd; exact (by decide : 45 < 51), ?_⟩
                have e1 : u 1 = _ := hR 1 (by decide)
                have k0 := keep_cell hI x0
                have k1 := keep_cell hI x1
                have k2 := keep_cell hI x2
                have k3 := keep_cell hI x3
                have k4 := keep_cell hI x4
                have k5 := keep_cell hI x5
                have k6 := keep_cell hI x6
                have k7 := keep_cell hI y0
                have k8 := keep_cell hI y1
                have k9 := keep_cell hI y2
                have k10 := keep_cell hI y3
                have k11 := keep_cell hI y4
                have k12 := keep_cell hI y5
                have k13 := keep_cell hI y6
                rw [e1]
                clear e1
                have HS0 := Lib.hid (SlR.below intR_fits SY0.out hI)
                have HS1 := Lib.hid (SlR.below intR_fits SY1.out hI)
                have HPw := Lib.hid (HP.out.below (BB.out.trans (hI.mono BB.out.size)))
                have HWw := Lib.hid (HW.out.below (BB.out.trans (hI.mono BB.out.size)))
                have HI := Lib.hid hI
                have HSt := Lib.hid hst
                clear hI hst hR
                go_wp2_with fail
                refine (iReqText_any y _ _ fy fyl _ HS0.out HS1.out HPw.out HWw.out).mono ?_
                rw [← HSB.out]
                rintro e w9 ⟨rfl, b9⟩
                have HS := Lib.hid (facts_stable HSt.out (b9.chg []))
                have HI9 := Lib.hid (HI.out.trans (b9.mono HI.out.size))
                clear b9
                go_wp2
                exact ⟨rfl, _, rfl, rfl, HI9.out, HS.out⟩
              · refine Owes.mk _ rfl rfl (fun _ _ h => by cases h) fun u m w' hm hI hR => ⟨⟨#[undef, undef, undef, undef, undef, undef, undef, undef, undef, undef, undef, undef, undef, undef, undef, undef, undef, undef, undef, undef, undef, undef, undef, undef, undef, undef, undef, undef, undef, undef, undef, undef, undef, undef, undef, undef, undef, undef, undef, undef, undef, undef, undef, u 0, undef, u 2, undef, undef, undef, undef, undef], []⟩, rfl, fun d hd => by cases hd; exact (by decide : 46 < 51), ?_⟩
                have e0 : u 0 = _ := hR 0 (by decide)
                have e2 : u 2 = _ := hR 2 (by decide)
                have k0 := keep_cell hI x0
                have k1 := keep_cell hI x1
                have k2 := keep_cell hI x2
                have k3 := keep_cell hI x3
                have k4 := keep_cell hI x4
                have k5 := keep_cell hI x5
                have k6 := keep_cell hI x6
                have k7 := keep_cell hI y0
                have k8 := keep_cell hI y1
                have k9 := keep_cell hI y2
                have k10 := keep_cell hI y3
                have k11 := keep_cell hI y4
                have k12 := keep_cell hI y5
                have k13 := keep_cell hI y6
                have HI := Lib.hid hI
                clear hI hst hR
                rw [e0, e2]
                clear e0 e2
                go_wp2
                exact ⟨rfl, _, rfl, rfl, HI.out, fun _ _ h => h⟩
              · refine Owes.mk _ rfl rfl (fun _ _ h => by cases h) fun u m w' hm hI hR => ⟨⟨#[undef, undef, undef, undef, undef, .pointer (some ⟨bx, 0, none⟩), undef, undef, undef, undef, undef, undef, undef, undef, undef, undef, undef, undef, undef, undef, undef, undef, undef, undef, undef, undef, undef, undef, undef, undef, undef, undef, undef, undef, undef, undef, undef, undef, undef, undef, undef, undef, undef, undef, undef, undef, undef, undef, undef, undef, undef], []⟩, rfl, fun d hd => by cases hd; exact (by decide : 47 < 51), ?_⟩
                have k0 := keep_cell hI x0
                have k1 := keep_cell hI x1
                have k2 := keep_cell hI x2
                have k3 := keep_cell hI x3
                have k4 := keep_cell hI x4
                have k5 := keep_cell hI x5
                have k6 := keep_cell hI x6
                have k7 := keep_cell hI y0
                have k8 := keep_cell hI y1
                have k9 := keep_cell hI y2
                have k10 := keep_cell hI y3
                have k11 := keep_cell hI y4
                have k12 := keep_cell hI y5
                have k13 := keep_cell hI y6
                have HI := Lib.hid hI
                clear hI hst hR
                go_wp2
                exact ⟨rfl, _, rfl, rfl, HI.out, fun _ _ h => h⟩
              · refine Owes.mk _ rfl rfl (fun _ _ h => by cases h) fun u m w' hm hI hR => ⟨⟨#[undef, undef, undef, undef, undef, undef, .pointer (some ⟨bb, 0, none⟩), undef, undef, undef, undef, undef, undef, undef, undef, undef, undef, undef, undef, undef, undef, undef, undef, undef, undef, undef, undef, undef, undef, undef, undef, undef, undef, undef, undef, undef, undef, undef, undef, undef, undef, undef, undef, undef, undef, undef, undef, undef, undef, undef, undef], []⟩, rfl, fun d hd => by cases hd; exact (by decide : 48 < 51), ?_⟩
                have k0 := keep_cell hI x0
                have k1 := keep_cell hI x1
                have k2 := keep_cell hI x2
                have k3 := keep_cell hI x3
                have k4 := keep_cell hI x4
                have k5 := keep_cell hI x5
                have k6 := keep_cell hI x6
                have k7 := keep_cell hI y0
                have k8 := keep_cell hI y1
                have k9 := keep_cell hI y2
                have k10 := keep_cell hI y3
                have k11 := keep_cell hI y4
                have k12 := keep_cell hI y5
                have k13 := keep_cell hI y6
                have HI := Lib.hid hI
                clear hI hst hR
                go_wp2
                exact ⟨rfl, _, rfl, rfl, HI.out, fun _ _ h => h⟩
              · refine Owes.mk _ rfl rfl (fun _ _ h => by cases h) fun u m w' hm hI hR => ⟨⟨#[undef, undef, undef, undef, undef, undef, undef, undef, undef, undef, undef, undef, undef, undef, undef, undef, undef, undef, undef, undef, undef, undef, undef, undef, undef, undef, undef, undef, undef, undef, undef, undef, undef, undef, undef, undef, undef, undef, undef, undef, undef, undef, undef, undef, undef, undef, undef, u 4, u 5, undef, undef], []⟩, rfl, fun d hd => by cases hd; exact (by decide : 49 < 51), ?_⟩
                have e4 : u 4 = _ := hR 4 (by decide)
                have e5 : u 5 = _ := hR 5 (by decide)
                have k0 := keep_cell hI x0
                have k1 := keep_cell hI x1
                have k2 := keep_cell hI x2
                have k3 := keep_cell hI x3
                have k4 := keep_cell hI x4
                have k5 := keep_cell hI x5
                have k6 := keep_cell hI x6
                have k7 := keep_cell hI y0
                have k8 := keep_cell hI y1
                have k9 := keep_cell hI y2
                have k10 := keep_cell hI y3
                have k11 := keep_cell hI y4
                have k12 := keep_cell hI y5
                have k13 := keep_cell hI y6
                rw [e4, e5]
                clear e4 e5
                have HX0 := Lib.hid (SlR.below intR_fits SX0.out hI)
                have HX1 := Lib.hid (SlR.below intR_fits SX1.out hI)
                have HY0 := Lib.hid (SlR.below intR_fits SY0.out hI)
                have HY1 := Lib.hid (SlR.below intR_fits SY1.out hI)
                have HI := Lib.hid hI
                have HSt := Lib.hid hst
                clear hI hst hR
                go_wp2_with fail
                refine (crReq_any x y _ _ _ _ fx fxl fy fyl _ HX0.out HX1.out HY0.out HY1.out).mono ?_
                rw [decide_eq_false HD.out]
                rintro e w9 ⟨rfl, b9⟩
                have HS := Lib.hid (facts_stable HSt.out (b9.chg []))
                have HI9 := Lib.hid (HI.out.trans (b9.mono HI.out.size))
                clear b9
                go_wp2
                exact ⟨rfl, _, rfl, rfl, HI9.out, HS.out⟩
              · refine Owes.mk _ rfl rfl (fun _ _ h => by cases h) fun u m w' hm hI hR => ⟨⟨#[undef, undef, undef, undef, undef, undef, undef, undef, undef, undef, undef, undef, undef, undef, undef, undef, undef, undef, undef, undef, undef, undef, undef, undef, undef, undef, undef, undef, undef, undef, undef, undef, undef, undef, undef, undef, undef, undef, undef, undef, undef, undef, undef, undef, undef, undef, u 3, undef, undef, u 6, undef], []⟩, rfl, fun d hd => by cases hd; exact (by decide : 50 < 51), ?_⟩
                have e3 : u 3 = _ := hR 3 (by decide)
                have e6 : u 6 = _ := hR 6 (by decide)
                have k0 := keep_cell hI x0
                have k1 := keep_cell hI x1
                have k2 := keep_cell hI x2
                have k3 := keep_cell hI x3
                have k4 := keep_cell hI x4
                have k5 := keep_cell hI x5
                have k6 := keep_cell hI x6
                have k7 := keep_cell hI y0
                have k8 := keep_cell hI y1
                have k9 := keep_cell hI y2
                have k10 := keep_cell hI y3
                have k11 := keep_cell hI y4
                have k12 := keep_cell hI y5
                have k13 := keep_cell hI y6
                have HI := Lib.hid hI
                clear hI hst hR
                rw [e3, e6]
                clear e3 e6
                go_wp2
                exact ⟨rfl, _, rfl, rfl, HI.out, fun _ _ h => h⟩
              · refine Owes.mk _ rfl rfl (fun _ _ h => by cases h) fun u m w' hm hI hR => ⟨⟨#[undef, undef, undef, undef, undef, undef, undef, undef, undef, undef, undef, undef, undef, undef, undef, undef, undef, undef, undef, undef, undef, undef, undef, undef, undef, undef, undef, undef, undef, undef, undef, undef, undef, undef, undef, undef, undef, undef, undef, undef, undef, undef, undef, undef, undef, undef, undef, undef, undef, undef, u 7], []⟩, rfl, fun d hd => by cases hd; exact (by decide : 4 < 51), ?_⟩
                have e7 : u 7 = _ := hR 7 (by decide)
                have k0 := keep_cell hI x0
                have k1 := keep_cell hI x1
                have k2 := keep_cell hI x2
                have k3 := keep_cell hI x3
                have k4 := keep_cell hI x4
                have k5 := keep_cell hI x5
                have k6 := keep_cell hI x6
                have k7 := keep_cell hI y0
                have k8 := keep_cell hI y1
                have k9 := keep_cell hI y2
                have k10 := keep_cell hI y3
                have k11 := keep_cell hI y4
                have k12 := keep_cell hI y5
                have k13 := keep_cell hI y6
                have HI := Lib.hid hI
                clear hI hst hR
                rw [e7]
                clear e7
                go_wp2
                exact ⟨rfl, _, rfl, rfl, HI.out, fun _ _ h => h⟩
            case hend =>
              intro u w' hI hR
              simp only [setAll, List.set_cons_zero, List.set_cons_succ]
              unfold wpList
              have e8 : u 8 = _ := hR 8 (by decide)
              rw [e8]
              have HBw := Lib.hid (BB.out.trans (hI.mono BB.out.size))
              clear hR hI hst e8
              go_wp2
              go_ret
              exact ⟨rfl, HBw.out⟩

theorem hpow : Rows.fnReqApartRow.laid.filter (fun x => x.1 == "internal/strconv.uint64pow10") = [("internal/strconv.uint64pow10", Lib.tabData .u64 Lib.pow10Tab)] := by kernel_rfl
theorem hwords : Rows.fnReqApartRow.laid.filter (fun x => x.1 == "loop.example/crossyard/impl.reqWords") = [("loop.example/crossyard/impl.reqWords", wordsD reqWords)] := by kernel_rfl
theorem door_met (os : Os) (args : Array Value) : laidMetH Tryd.prog Rows.fnReqApartRow.laid ((World.doorLaid Tryd.prog 4000 os).forCall (fun _ _ => 0) ⟨#[], args, []⟩).memory :=
  laidMetH_of_parts3 (fuel := 8) (laidMet_of_run' 8 (by kernel_rfl) (by kernel_rfl)) (by kernel_rfl) (by kernel_rfl)
set_option maxRecDepth 100000 in
theorem lifted (os : Os) (started : os.Started) (H : Type) (enc : TypeId × Value → H) :
    ReturnsInHanded {} Tryd.checked os 6 .any (fun w args => (Rows.fnReqApartSpec.pre enc Tryd.prog Tryd.f6 [] false w args ∧ laidMetH Tryd.prog Rows.fnReqApartRow.laid w) ∧ sizedMet enc Tryd.prog Tryd.f6 (OpenSpec.ofChange Rows.fnReqApartSpec) false w args)
      (Rows.fnReqApartSpec.post enc Tryd.prog Tryd.f6 false true false false) := by
  refine returnsInHanded_of_change_and (C := Tryd.checked) (X := fun w _ => laidMetH Tryd.prog Rows.fnReqApartRow.laid w) (fun _ _ _ hh h => h.of_heap hh) own started (by kernel_rfl) Tryd.func6
    (ChangeSpec.witness_shaped (enc := enc) (C := Tryd.checked) (os := os) (X := fun w _ => laidMetH Tryd.prog Rows.fnReqApartRow.laid w) false (World.doorLaid Tryd.prog 4000 os) #[.slice none 0 0, .slice none 0 0] 8 rfl (World.shaped_of_RefB (by kernel_rfl) (by kernel_rfl)) (by kernel_rfl) (by kernel_rfl) (by kernel_rfl) (door_met os _)) ?_
  intro W base args ds gs before hval0 hW _ _ hL _
  have hval : ∀ (j : Nat) t v, Tryd.f6.params[j]? = some t → args[j]? = some v → Value.okWide Tryd.prog W .any base t v := hval0
  have hW' := hW
  obtain ⟨p, q, hA0, hV, rfl, hfz, hnd⟩ := hW
  have hA : DataW.TrodAll enc Tryd.prog W 0 (fun _ => true) true Tryd.f6.params.toList args.toList ds p := hA0
  rw [Tryd.params6] at hA hval
  obtain ⟨v0, vs0, d0, ds0, p0, q0, hargs, rfl, rfl, h0, r0⟩ := trodAll_cons hA
  obtain ⟨v1, vs1, d1, ds1, p1, q1, rfl, rfl, rfl, h1, r1⟩ := trodAll_cons r0
  obtain ⟨rfl, rfl, rfl⟩ := trodAll_nil r1
  obtain rfl : args = #[v0, v1] := by cases args; simp_all
  have hV0 := hV
  obtain ⟨_, _, _, _, _, _, rfl, _, _, _, _, _⟩ := trodVars_one hV0
  clear hA0 hval0
  have hlt0 : ∀ x ∈ p0, x.block < W.heap.size := fun x hx => by simpa using hW'.lt x (by simp [hx])
  have hk0 := h0
  obtain ⟨ad0, len0, cap0, rfl⟩ := okWide_slice Tryd.underlying39 (hval 0 39 v0 rfl rfl)
  obtain ⟨fuel0, hf0⟩ := h0
  obtain ⟨x0, fp0, y0, e0, g0⟩ := (opens_slice Tryd.underlying39 (by kernel_rfl) (by decide) (opens_byte Tryd.underlying5) byteR_fits) hf0
  obtain rfl : .slice ad0 len0 cap0 = y0 := by simpa [Value.cells] using e0
  have hlt1 : ∀ x ∈ p1, x.block < W.heap.size := fun x hx => by simpa using hW'.lt x (by simp [hx])
  have hk1 := h1
  obtain ⟨ad1, len1, cap1, rfl⟩ := okWide_slice Tryd.underlying39 (hval 1 39 v1 rfl rfl)
  obtain ⟨fuel1, hf1⟩ := h1
  obtain ⟨x1, fp1, y1, e1, g1⟩ := (opens_slice Tryd.underlying39 (by kernel_rfl) (by decide) (opens_byte Tryd.underlying5) byteR_fits) hf1
  obtain rfl : .slice ad1 len1 cap1 = y1 := by simpa [Value.cells] using e1
  refine (walk (.slice ad0 len0 cap0) x0 fp0 (.slice ad1 len1 cap1) x1 fp1 W g0 g1 (pow_of hpow hL) (words_of (by decide) (by kernel_rfl) (by kernel_rfl) hwords hL)).mono fun e W' ⟨he, hb⟩ => ?_
  subst he
  exact ⟨_, rfl, _, _, _, [], _, q, hW', (trodAll_cons_mk (shut_bool Tryd.underlying4 _) trodAll_mk0), (trodAll_cons_mk (Below.trod laidOut (by kernel_rfl) (of_decide_eq_true (by kernel_rfl)) hk0 hb hlt0) (trodAll_cons_mk (Below.trod laidOut (by kernel_rfl) (of_decide_eq_true (by kernel_rfl)) hk1 hb hlt1) trodAll_mk0)), hb.trodVars laidOut (by kernel_rfl) hV, hb.frame _, fun h => by cases h⟩

theorem over : Rows.fnReqApartRow.holds Tryd.pinned (OpenSpec.ofChange Rows.fnReqApartSpec) :=
  OpenClaim.holds_of_wide 6 Tryd.f6 rfl rfl rfl rfl rfl rfl rfl ⟨rfl, rfl, rfl, rfl, rfl⟩ rfl rfl rfl rfl rfl (by kernel_rfl) Tryd.func6 (by kernel_rfl)
    (of_decide_eq_true (by kernel_rfl)) (by unfold Func.isWrapper; first | (rw [if_pos (by decide +kernel)]; kernel_rfl) | (rw [if_neg (by decide +kernel)]; exact ⟨rfl, rfl⟩))
    (fun os started H enc _ => lifted os started H enc)

theorem proved : Rows.FnReqApartCardSaid :=
  Claim7.holds_tied_plain_at .later [] [.data,.data,.data,.widerDeep] true (true, "e417f15a72d73d6417c807500a0c54e876089ad537866bc54c52dba4e83b9c50") false
    over (fun _ h => by cases h) (by kernel_rfl) (fun _ h => by cases h) fnReqApart_row_tie rfl ⟨rfl, rfl⟩ (by kernel_rfl) rfl
    (fun f fn hf hfn => by
      obtain rfl : f = 6 := Option.some.inj ((show Tryd.prog.funcNamed "loop.example/crossyard/laws.FnReqApart" = some 6 by kernel_rfl).symm.trans hf) |>.symm
      obtain rfl : fn = Tryd.f6 := (Option.some.inj (Tryd.func6.symm.trans hfn)).symm
      exact ⟨by kernel_rfl, fun j t ht => by
        rw [Tryd.params6] at ht
        have hm : t ∈ [39] := by simpa using Array.mem_of_getElem? ht
        have hall : ([39].all fun u => !Tryd.prog.wantsStandIn u) = true := by kernel_rfl
        exact (show Tryd.prog.wantsStandIn t = false by simpa using List.all_eq_true.1 hall t hm)⟩)
    (by kernel_rfl)
#print axioms proved
end Go.Proofs.YtaeiddoccfaheaaDoor.fnReqApart
