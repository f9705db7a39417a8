/-
  Proved: the Go function laws.FnReqSame returns true for every code, and the code reads afterwards as before: with another name, or as what reads it, what is asked is asked of the same store.
  Conditions: none.
-/
import Derived.Test.YtmmojgopeaelcaaLift
import Derived.Test.YtmmojgopeaelcaaDReqSlave
import Derived.Test.YtmmojgopeaelcaaSlave
import Derived.Test.YtmmojgopeaelcaaOwn2
import Derived.Test.YtmmojgopeaelcaaCr
namespace Go.Proofs.Ytmmojgopeaelcaa.fnReqSame
set_option linter.unusedVariables false
set_option linter.unusedSimpArgs false
open Go.ChangeShapes Go.WideShapes Go.ChangeAt Go.RowKit

theorem lo (l : List MR) (x : Req) (h : reqSlave l x < 0) : reqSlave l x = -1 ∨ (mapOk l = true ∧ reqOk x = true ∧ slaveOf l x < 0) := by
  unfold reqSlave at *
  by_cases hk : (mapOk l && reqOk x) = true
  · rw [if_pos hk] at h ⊢
    rw [Bool.and_eq_true] at hk
    exact .inr ⟨hk.1, hk.2, h⟩
  · rw [if_neg hk]; exact .inl rfl
theorem slave_lo {l : List MR} (hm : mapOk l = true) (x : Req) : 0 ≤ slaveOf l x := by
  unfold slaveOf
  split
  · rename_i h
    have hk := wholeIx_hi h
    unfold mapOk at hm
    rw [Bool.and_eq_true] at hm
    have h2 := of_decide_eq_true hm.2 _ hk
    unfold rowOk at h2
    simp only [Bool.and_eq_true] at h2
    exact (inB_true.1 h2.2.2.1).1
  · omega
theorem neg {l : List MR} {x : Req} (h : reqSlave l x < 0) : reqSlave l x = -1 := by
  rcases lo l x h with h | ⟨h1, _, h3⟩
  · exact h
  · have := slave_lo h1 x; omega
theorem parts {l : List MR} {x : Req} (h : ¬ reqSlave l x < 0) : mapOk l = true ∧ reqOk x = true := by
  unfold reqSlave at h
  by_cases hk : (mapOk l && reqOk x) = true
  · rwa [Bool.and_eq_true] at hk
  · rw [if_neg hk] at h; exact absurd (by decide) h
theorem same {l : List MR} {x y : Req} (h : ¬ reqSlave l x < 0) (hy : reqOk y = true) (e : burstOf y = burstOf x) : reqSlave l y = reqSlave l x := by
  obtain ⟨h1, h2⟩ := parts h
  unfold reqSlave
  rw [h1, h2, hy]
  simp only [Bool.and_self, if_true]
  unfold slaveOf
  simp only [e]
theorem other {x : Req} (h : reqOk x = true) : reqOk { x with id := 1 - x.id } = true := by
  unfold reqOk at *
  simp only [Bool.and_eq_true] at *
  have h1 := inB_true.1 h.1
  exact ⟨inB_true.2 (by show 0 ≤ 1 - x.id ∧ 1 - x.id ≤ 1; omega), h.2⟩
theorem reads {x : Req} (h : reqOk x = true) : reqOk ⟨x.id, 1, x.addr, x.many, x.wrap, [], []⟩ = true := by
  unfold reqOk at *
  simp only [Bool.and_eq_true] at h
  obtain ⟨h1, h2, h3, _⟩ := h
  have h4 : inB (1 : Int) 1 4 = true := by decide
  simp [h1, h3, h4, manyOf, writesB, allIn]

set_option maxRecDepth 100000 in
set_option maxHeartbeats 6400000 in
theorem walk (v : Value) (l0 : List Int) (fp0 : List Nat) (w : World) (g : ByteS w l0 v fp0) :
    Calls Try.prog 14 #[v] w fun e w' => e = .returned (.bool true) ∧ Below w.heap.size w w' := by
  obtain ⟨a0, n0, c0, rfl, hn0, hcap0, hmax0, hcm0, _⟩ := g.opened
  have G := Lib.hid g
  clear g
  by_cases hb : 1048576 < n0
  · go_enter Try.func14, Try.ntmps14
    go_wp2
    go_ret
    exact ⟨rfl, Below.refl _ _⟩
  · go_enter Try.func14, Try.ntmps14
    go_wp2_with fail
    refine (drawReqSlave_any _ l0 fp0 w G.out).mono ?_
    rintro e w1 ⟨v0, l, fm, x, v1, v2, fd, fl, rfl, s0, s1, s2, _, _, _, b1⟩
    obtain ⟨am, nm, cm, rfl⟩ := s0.form
    obtain ⟨a1, n1, c1, rfl⟩ := s1.form
    obtain ⟨a2, n2, c2, rfl⟩ := s2.form
    have ba := below_alloc w1 (.cells #[.int .i64 x.id, .int .i64 x.kind, .int .i64 x.addr, .int .i64 x.many, .bool x.wrap, .slice a1 n1 c1, .slice a2 n2 c2] 91)
    have S0 := Lib.hid (SlR.below mrR_fits s0 ba)
    have S1 := Lib.hid (SlR.below intR_fits s1 ba)
    have S2 := Lib.hid (SlR.below intR_fits s2 ba)
    have B1 := Lib.hid (b1.trans (ba.mono b1.size))
    clear s0 s1 s2 b1 ba
    go_wp2_with fail
    refine (iReqSlave_any _ l fm x _ _ fd fl _ S0.out S1.out S2.out).mono ?_
    obtain ⟨z, hz⟩ : ∃ z, z = reqSlave l x := ⟨_, rfl⟩
    rw [← hz]
    have HZ := Lib.hid hz
    clear hz
    rintro e w2 ⟨rfl, b⟩
    have X0 : w2.cell? ⟨w1.heap.size, 0, none⟩ = some (.int .i64 x.id) := keep_cell b (alloc1_new w1 _ _ 0 rfl)
    have X1 : w2.cell? ⟨w1.heap.size, 1, none⟩ = some (.int .i64 x.kind) := keep_cell b (alloc1_new w1 _ _ 1 rfl)
    have X2 : w2.cell? ⟨w1.heap.size, 2, none⟩ = some (.int .i64 x.addr) := keep_cell b (alloc1_new w1 _ _ 2 rfl)
    have X3 : w2.cell? ⟨w1.heap.size, 3, none⟩ = some (.int .i64 x.many) := keep_cell b (alloc1_new w1 _ _ 3 rfl)
    have X4 : w2.cell? ⟨w1.heap.size, 4, none⟩ = some (.bool x.wrap) := keep_cell b (alloc1_new w1 _ _ 4 rfl)
    have X5 : w2.cell? ⟨w1.heap.size, 5, none⟩ = some (.slice a1 n1 c1) := keep_cell b (alloc1_new w1 _ _ 5 rfl)
    have X6 : w2.cell? ⟨w1.heap.size, 6, none⟩ = some (.slice a2 n2 c2) := keep_cell b (alloc1_new w1 _ _ 6 rfl)
    replace S0 := Lib.hid (SlR.below mrR_fits S0.out b)
    replace S1 := Lib.hid (SlR.below intR_fits S1.out b)
    replace S2 := Lib.hid (SlR.below intR_fits S2.out b)
    replace B1 := Lib.hid (B1.out.trans (b.mono B1.out.size))
    clear b
    go_wp2_with fail
    refine (sReqSlave_any _ l fm x _ _ fd fl _ S0.out S1.out S2.out).mono ?_
    rw [← HZ.out]
    rintro e w3 ⟨rfl, b⟩
    replace X0 := keep_cell b X0
    replace X1 := keep_cell b X1
    replace X2 := keep_cell b X2
    replace X3 := keep_cell b X3
    replace X4 := keep_cell b X4
    replace X5 := keep_cell b X5
    replace X6 := keep_cell b X6
    replace S0 := Lib.hid (SlR.below mrR_fits S0.out b)
    replace S1 := Lib.hid (SlR.below intR_fits S1.out b)
    replace S2 := Lib.hid (SlR.below intR_fits S2.out b)
    replace B1 := Lib.hid (B1.out.trans (b.mono B1.out.size))
    clear b
    have hzz : (z != z) = false := by simp
    by_cases hneg : z < 0
    · obtain rfl : z = -1 := by rw [HZ.out] at hneg ⊢; exact neg hneg
      clear hneg
      go_wp2_with fail
      refine (crOk_any _).mono ?_
      rintro e w4 ⟨rfl, rfl⟩
      go_wp2
      go_ret
      exact ⟨rfl, B1.out⟩
    · have hn2 : ¬ reqSlave l x < 0 := by rw [← HZ.out]; exact hneg
      have HX : Hid (reqSlave l { x with id := 1 - x.id } = z) := Lib.hid (by rw [HZ.out]; exact same hn2 (other (parts hn2).2) rfl)
      have HY : Hid (reqSlave l ⟨x.id, 1, x.addr, x.many, x.wrap, [], []⟩ = z) := Lib.hid (by rw [HZ.out]; exact same hn2 (reads (parts hn2).2) rfl)
      have HR := Lib.hid (parts hn2).2
      have hid0 : 0 ≤ x.id ∧ x.id ≤ 1 := by have h := (parts hn2).2; unfold reqOk at h; simp only [Bool.and_eq_true] at h; exact inB_true.1 h.1
      obtain ⟨hid0, hid1⟩ := hid0
      have zP : w1.heap.size < w3.heap.size := block_of_cell X0
      clear hn2
      go_upto_region 12 with fail
      obtain ⟨WB, hWB⟩ : ∃ W, W = ((w3.alloc (.cells #[.int .i64 (1 - x.id), .int .i64 x.kind, .int .i64 x.addr, .int .i64 x.many, .bool x.wrap, .slice a1 n1 c1, .slice a2 n2 c2] 91)).alloc (.cells #[.int .i64 x.id, .int .i64 1, .int .i64 x.addr, .int .i64 x.many, .bool x.wrap, .slice none 0 0, .slice none 0 0] 91)) := ⟨_, rfl⟩
      rw [← hWB]
      have bB : Below w3.heap.size w3 WB := by rw [hWB]; exact (below_alloc _ _).trans ((below_alloc _ _).mono (by simp))
      have Q0 : WB.cell? ⟨w3.heap.size, 0, none⟩ = some (.int .i64 (1 - x.id)) := by rw [hWB]; exact alloc_keep (alloc1_new w3 _ _ 0 rfl) _
      have Q1 : WB.cell? ⟨w3.heap.size, 1, none⟩ = some (.int .i64 x.kind) := by rw [hWB]; exact alloc_keep (alloc1_new w3 _ _ 1 rfl) _
      have Q2 : WB.cell? ⟨w3.heap.size, 2, none⟩ = some (.int .i64 x.addr) := by rw [hWB]; exact alloc_keep (alloc1_new w3 _ _ 2 rfl) _
      have Q3 : WB.cell? ⟨w3.heap.size, 3, none⟩ = some (.int .i64 x.many) := by rw [hWB]; exact alloc_keep (alloc1_new w3 _ _ 3 rfl) _
      have Q4 : WB.cell? ⟨w3.heap.size, 4, none⟩ = some (.bool x.wrap) := by rw [hWB]; exact alloc_keep (alloc1_new w3 _ _ 4 rfl) _
      have Q5 : WB.cell? ⟨w3.heap.size, 5, none⟩ = some (.slice a1 n1 c1) := by rw [hWB]; exact alloc_keep (alloc1_new w3 _ _ 5 rfl) _
      have Q6 : WB.cell? ⟨w3.heap.size, 6, none⟩ = some (.slice a2 n2 c2) := by rw [hWB]; exact alloc_keep (alloc1_new w3 _ _ 6 rfl) _
      have R0 : WB.cell? ⟨w3.heap.size + 1, 0, none⟩ = some (.int .i64 x.id) := by rw [hWB]; have h := alloc1_new (w3.alloc (.cells #[.int .i64 (1 - x.id), .int .i64 x.kind, .int .i64 x.addr, .int .i64 x.many, .bool x.wrap, .slice a1 n1 c1, .slice a2 n2 c2] 91)) #[.int .i64 x.id, .int .i64 1, .int .i64 x.addr, .int .i64 x.many, .bool x.wrap, .slice none 0 0, .slice none 0 0] 91 0 rfl; rw [show (w3.alloc (.cells #[.int .i64 (1 - x.id), .int .i64 x.kind, .int .i64 x.addr, .int .i64 x.many, .bool x.wrap, .slice a1 n1 c1, .slice a2 n2 c2] 91)).heap.size = w3.heap.size + 1 by simp] at h; exact h
      have R1 : WB.cell? ⟨w3.heap.size + 1, 1, none⟩ = some (.int .i64 1) := by rw [hWB]; have h := alloc1_new (w3.alloc (.cells #[.int .i64 (1 - x.id), .int .i64 x.kind, .int .i64 x.addr, .int .i64 x.many, .bool x.wrap, .slice a1 n1 c1, .slice a2 n2 c2] 91)) #[.int .i64 x.id, .int .i64 1, .int .i64 x.addr, .int .i64 x.many, .bool x.wrap, .slice none 0 0, .slice none 0 0] 91 1 rfl; rw [show (w3.alloc (.cells #[.int .i64 (1 - x.id), .int .i64 x.kind, .int .i64 x.addr, .int .i64 x.many, .bool x.wrap, .slice a1 n1 c1, .slice a2 n2 c2] 91)).heap.size = w3.heap.size + 1 by simp] at h; exact h
      have R2 : WB.cell? ⟨w3.heap.size + 1, 2, none⟩ = some (.int .i64 x.addr) := by rw [hWB]; have h := alloc1_new (w3.alloc (.cells #[.int .i64 (1 - x.id), .int .i64 x.kind, .int .i64 x.addr, .int .i64 x.many, .bool x.wrap, .slice a1 n1 c1, .slice a2 n2 c2] 91)) #[.int .i64 x.id, .int .i64 1, .int .i64 x.addr, .int .i64 x.many, .bool x.wrap, .slice none 0 0, .slice none 0 0] 91 2 rfl; rw [show (w3.alloc (.cells #[.int .i64 (1 - x.id), .int .i64 x.kind, .int .i64 x.addr, .int .i64 x.many, .bool x.wrap, .slice a1 n1 c1, .slice a2 n2 c2] 91)).heap.size = w3.heap.size + 1 by simp] at h; exact h
      have R3 : WB.cell? ⟨w3.heap.size + 1, 3, none⟩ = some (.int .i64 x.many) := by rw [hWB]; have h := alloc1_new (w3.alloc (.cells #[.int .i64 (1 - x.id), .int .i64 x.kind, .int .i64 x.addr, .int .i64 x.many, .bool x.wrap, .slice a1 n1 c1, .slice a2 n2 c2] 91)) #[.int .i64 x.id, .int .i64 1, .int .i64 x.addr, .int .i64 x.many, .bool x.wrap, .slice none 0 0, .slice none 0 0] 91 3 rfl; rw [show (w3.alloc (.cells #[.int .i64 (1 - x.id), .int .i64 x.kind, .int .i64 x.addr, .int .i64 x.many, .bool x.wrap, .slice a1 n1 c1, .slice a2 n2 c2] 91)).heap.size = w3.heap.size + 1 by simp] at h; exact h
      have R4 : WB.cell? ⟨w3.heap.size + 1, 4, none⟩ = some (.bool x.wrap) := by rw [hWB]; have h := alloc1_new (w3.alloc (.cells #[.int .i64 (1 - x.id), .int .i64 x.kind, .int .i64 x.addr, .int .i64 x.many, .bool x.wrap, .slice a1 n1 c1, .slice a2 n2 c2] 91)) #[.int .i64 x.id, .int .i64 1, .int .i64 x.addr, .int .i64 x.many, .bool x.wrap, .slice none 0 0, .slice none 0 0] 91 4 rfl; rw [show (w3.alloc (.cells #[.int .i64 (1 - x.id), .int .i64 x.kind, .int .i64 x.addr, .int .i64 x.many, .bool x.wrap, .slice a1 n1 c1, .slice a2 n2 c2] 91)).heap.size = w3.heap.size + 1 by simp] at h; exact h
      have R5 : WB.cell? ⟨w3.heap.size + 1, 5, none⟩ = some (.slice none 0 0) := by rw [hWB]; have h := alloc1_new (w3.alloc (.cells #[.int .i64 (1 - x.id), .int .i64 x.kind, .int .i64 x.addr, .int .i64 x.many, .bool x.wrap, .slice a1 n1 c1, .slice a2 n2 c2] 91)) #[.int .i64 x.id, .int .i64 1, .int .i64 x.addr, .int .i64 x.many, .bool x.wrap, .slice none 0 0, .slice none 0 0] 91 5 rfl; rw [show (w3.alloc (.cells #[.int .i64 (1 - x.id), .int .i64 x.kind, .int .i64 x.addr, .int .i64 x.many, .bool x.wrap, .slice a1 n1 c1, .slice a2 n2 c2] 91)).heap.size = w3.heap.size + 1 by simp] at h; exact h
      have R6 : WB.cell? ⟨w3.heap.size + 1, 6, none⟩ = some (.slice none 0 0) := by rw [hWB]; have h := alloc1_new (w3.alloc (.cells #[.int .i64 (1 - x.id), .int .i64 x.kind, .int .i64 x.addr, .int .i64 x.many, .bool x.wrap, .slice a1 n1 c1, .slice a2 n2 c2] 91)) #[.int .i64 x.id, .int .i64 1, .int .i64 x.addr, .int .i64 x.many, .bool x.wrap, .slice none 0 0, .slice none 0 0] 91 6 rfl; rw [show (w3.alloc (.cells #[.int .i64 (1 - x.id), .int .i64 x.kind, .int .i64 x.addr, .int .i64 x.many, .bool x.wrap, .slice a1 n1 c1, .slice a2 n2 c2] 91)).heap.size = w3.heap.size + 1 by simp] at h; exact h
      replace X0 := keep_cell bB X0
      replace X1 := keep_cell bB X1
      replace X2 := keep_cell bB X2
      replace X3 := keep_cell bB X3
      replace X4 := keep_cell bB X4
      replace X5 := keep_cell bB X5
      replace X6 := keep_cell bB X6
      replace S0 := Lib.hid (SlR.below mrR_fits S0.out bB)
      replace S1 := Lib.hid (SlR.below intR_fits S1.out bB)
      replace S2 := Lib.hid (SlR.below intR_fits S2.out bB)
      replace B1 := Lib.hid (B1.out.trans (bB.mono B1.out.size))
      have SN : Hid (SlR 1 intR WB [] (.slice none 0 0) []) := Lib.hid ⟨none, 0, 0, rfl, rfl, Nat.le_refl _, Nat.zero_le _, .inl ⟨rfl, rfl⟩⟩
      clear hWB bB X0 X1 X2 X3 X4 X5 X6
      go_wp2_with fail
      refine (iReqSlave_any _ l fm { x with id := 1 - x.id } _ _ fd fl _ S0.out S1.out S2.out).mono ?_
      rw [HX.out]
      rintro e w4 ⟨rfl, b⟩
      replace R0 := keep_cell b R0
      replace R1 := keep_cell b R1
      replace R2 := keep_cell b R2
      replace R3 := keep_cell b R3
      replace R4 := keep_cell b R4
      replace R5 := keep_cell b R5
      replace R6 := keep_cell b R6
      replace S0 := Lib.hid (SlR.below mrR_fits S0.out b)
      replace SN := Lib.hid (SlR.below intR_fits SN.out b)
      replace B1 := Lib.hid (B1.out.trans (b.mono B1.out.size))
      clear b S1 S2
      have hze : (z == z) = true := by simp
      go_wp2_with fail
      refine (iReqSlave_any _ l fm ⟨x.id, 1, x.addr, x.many, x.wrap, [], []⟩ _ _ [] [] _ S0.out SN.out SN.out).mono ?_
      rw [HY.out]
      rintro e w5 ⟨rfl, b⟩
      replace B1 := Lib.hid (B1.out.trans (b.mono B1.out.size))
      clear b
      go_wp2
      go_ret
      exact ⟨rfl, B1.out⟩

set_option maxRecDepth 100000 in
theorem lifted (os : Os) (started : os.Started) (H : Type) (enc : TypeId × Value → H) :
    ReturnsInHanded {} Try.checked os 14 .any (Rows.fnReqSameSpec.pre6 enc Try.prog Try.f14 Rows.fnReqSameRow.domain false) (Rows.fnReqSameSpec.post enc Try.prog Try.f14 false true false false) := by
  refine returnsInHanded_of_change (C := Try.checked) own started (by kernel_rfl) Try.func14
    (ChangeSpec.witness6 (enc := enc) (C := Try.checked) false ⟨#[], #[.slice none 0 0], []⟩ 8 (by kernel_rfl) (by kernel_rfl) (by kernel_rfl) (by kernel_rfl)) ?_
  intro W base args ds gs before hval0 hW hcnd _
  have hval : ∀ (j : Nat) t v, Try.f14.params[j]? = some t → args[j]? = some v → Value.okWide Try.prog W .any base t v := hval0
  have hW' := hW
  obtain ⟨p, q, hA0, hV, rfl, hfz, hnd⟩ := hW
  have hA : DataW.TrodAll enc Try.prog W 0 (fun _ => true) true Try.f14.params.toList args.toList ds p := hA0
  rw [Try.params14] at hA hval
  obtain ⟨v0, vs0, d0, ds0, p0, q0, hargs, rfl, rfl, h0, r0⟩ := trodAll_cons hA
  obtain ⟨rfl, rfl, rfl⟩ := trodAll_nil r0
  obtain rfl : args = #[v0] := by cases args; simp_all
  obtain ⟨rfl, rfl⟩ := trodVars_none hV
  clear hA0 hval0
  simp only [List.append_nil] at hW'
  have hlt0 : ∀ x ∈ p0, x.block < W.heap.size := fun x hx => by simpa using hW'.lt x (by simp [hx])
  have hk0 := h0
  obtain ⟨ad0, len0, cap0, rfl⟩ := okWide_slice Try.underlying73 (hval 0 73 v0 rfl rfl)
  obtain ⟨fuel0, hf0⟩ := h0
  obtain ⟨x0, fp0, y0, e0, g0⟩ := (opens_slice Try.underlying73 (by kernel_rfl) (by decide) (opens_byte Try.underlying5) byteR_fits) hf0
  obtain rfl : .slice ad0 len0 cap0 = y0 := by simpa [Value.cells] using e0
  refine (walk (.slice ad0 len0 cap0) x0 fp0 W g0).mono fun e W' ⟨he, hb⟩ => ?_
  subst he
  exact ⟨_, rfl, _, _, _, [], _, [], hW', (trodAll_cons_mk (shut_bool Try.underlying4 _) trodAll_mk0), (trodAll_cons_mk (Below.trod laidOut (by kernel_rfl) (of_decide_eq_true (by kernel_rfl)) hk0 hb hlt0) trodAll_mk0), rfl, hb.frame _, fun h => by cases h⟩

theorem over : Rows.fnReqSameRow.holds Try.pinned (OpenSpec.ofChange Rows.fnReqSameSpec) :=
  OpenClaim.holds_of_wide 14 Try.f14 rfl rfl rfl rfl rfl rfl rfl ⟨rfl, rfl, rfl, rfl, rfl⟩ rfl rfl rfl rfl rfl (by kernel_rfl) Try.func14 (by kernel_rfl)
    (of_decide_eq_true (by kernel_rfl)) (by unfold Func.isWrapper; first | (rw [if_pos (by decide +kernel)]; kernel_rfl) | (rw [if_neg (by decide +kernel)]; exact ⟨rfl, rfl⟩))
    (fun os started H enc _ => lifted os started H enc)

theorem proved : Rows.FnReqSameSaid :=
  over
#print axioms proved
end Go.Proofs.Ytmmojgopeaelcaa.fnReqSame