/-
  Proved: the Go function laws.FnReqOk returns true for every code, and the code reads afterwards as before: what is asked has just what it needs, and of another name it is ok, too.
  Conditions: none.
-/
import Derived.Test.YtmmojgopeaelcaaLift
import Derived.Test.YtmmojgopeaelcaaDReqOk
import Derived.Test.YtmmojgopeaelcaaReqOk
import Derived.Test.YtmmojgopeaelcaaOwn2
import Derived.Test.YtmmojgopeaelcaaCr
namespace Go.Proofs.Ytmmojgopeaelcaa.fnReqOk
set_option linter.unusedVariables false
set_option linter.unusedSimpArgs false
open Go.ChangeShapes Go.WideShapes Go.ChangeAt Go.RowKit

structure Parts (x : Req) : Prop where
  id : 0 ≤ x.id ∧ x.id ≤ 1
  kd : 1 ≤ x.kind ∧ x.kind ≤ 4
  ad : adrOk x.addr x.many x.wrap = true
  d : (x.data.length : Int) = manyOf x
  l : (x.lanes.length : Int) = manyOf x
  ad2 : allIn x.data 0 65535 = true
  al : allIn x.lanes 0 3 = true
  h : (x.kind == 1 || x.kind == 2 || x.many == 1) = true
theorem parts {x : Req} (h : reqOk x = true) : Parts x := by
  unfold reqOk at h
  simp only [Bool.and_eq_true] at h
  obtain ⟨h1, h2, h3, h4, h5, h6, h7, h8⟩ := h
  exact ⟨inB_true.1 h1, inB_true.1 h2, h3, by simpa using h4, by simpa using h5, h6, h7, h8⟩
theorem other {x : Req} (h : reqOk x = true) : reqOk { x with id := 1 - x.id } = true := by
  have p := parts h
  have h1 : inB (1 - x.id) 0 1 = true := inB_true.2 (by have := p.id; omega)
  unfold reqOk at *
  simp only [Bool.and_eq_true] at *
  exact ⟨h1, h.2⟩
theorem more {x : Req} (h : reqOk x = true) : reqOk { x with data := x.data ++ [0] } = false := by
  have p := parts h
  have h4 : (((x.data ++ [0]).length : Int) == manyOf x) = false := by
    rw [beq_eq_false_iff_ne, ← p.d]
    simp
    omega
  unfold reqOk
  have h5 : (((x.data ++ [(0 : Int)]).length : Int) == manyOf { x with data := x.data ++ [0] }) = false := h4
  simp only [h5, Bool.false_and, Bool.and_false]

set_option maxRecDepth 100000 in
set_option maxHeartbeats 6400000 in
theorem walk (v : Value) (l0 : List Int) (fp0 : List Nat) (w : World) (g : ByteS w l0 v fp0) :
    Calls Try.prog 11 #[v] w fun e w' => e = .returned (.bool true) ∧ Below w.heap.size w w' := by
  obtain ⟨a0, n0, c0, rfl, hn0, hcap0, hmax0, hcm0, _⟩ := g.opened
  obtain ⟨i0, ki, kz0, kz1, kz2⟩ := info_parts infoInt
  have G := Lib.hid g
  clear g
  by_cases hb : 1048576 < n0
  · go_enter Try.func11, Try.ntmps11
    go_wp2
    go_ret
    exact ⟨rfl, Below.refl _ _⟩
  · go_enter Try.func11, Try.ntmps11
    go_wp2_with fail
    refine (drawReqOk_any _ l0 fp0 w G.out).mono ?_
    rintro e w1 ⟨⟨id, kd, ad, mn, wp, dt, ln⟩, v1, v2, fd, fl, rfl, s1, s2, hd20, hl20, b1⟩
    obtain ⟨a, n, c, rfl, hn, hcap, hmax, hcm, _⟩ := s1.opened
    obtain ⟨a2, n2, c2, rfl, _, _, _, _, _⟩ := s2.opened
    have ba := below_alloc w1 (.cells #[.int .i64 id, .int .i64 kd, .int .i64 ad, .int .i64 mn, .bool wp, .slice a n c, .slice a2 n2 c2] 91)
    have S1 := Lib.hid (SlR.below intR_fits s1 ba)
    have S2 := Lib.hid (SlR.below intR_fits s2 ba)
    have B1 := Lib.hid (b1.trans (ba.mono b1.size))
    have HD20 := Lib.hid hd20
    have HW1 := Lib.hid b1.size
    clear s1 s2 b1 ba hd20 hl20
    go_wp2_with fail
    refine (iReqOk_any ⟨id, kd, ad, mn, wp, dt, ln⟩ _ _ fd fl _ S1.out S2.out).mono ?_
    rintro e w2 ⟨rfl, b⟩
    have X0 := keep_cell b (alloc1_new w1 _ _ 0 rfl)
    have X1 := keep_cell b (alloc1_new w1 _ _ 1 rfl)
    have X2 := keep_cell b (alloc1_new w1 _ _ 2 rfl)
    have X3 := keep_cell b (alloc1_new w1 _ _ 3 rfl)
    have X4 := keep_cell b (alloc1_new w1 _ _ 4 rfl)
    have X5 := keep_cell b (alloc1_new w1 _ _ 5 rfl)
    have X6 := keep_cell b (alloc1_new w1 _ _ 6 rfl)
    replace S1 := Lib.hid (SlR.below intR_fits S1.out b)
    replace S2 := Lib.hid (SlR.below intR_fits S2.out b)
    replace B1 := Lib.hid (B1.out.trans (b.mono B1.out.size))
    clear b
    go_wp2_with fail
    refine (sReqOk_any ⟨id, kd, ad, mn, wp, dt, ln⟩ _ _ fd fl _ S1.out S2.out).mono ?_
    rintro e w3 ⟨rfl, b⟩
    replace X0 := keep_cell b X0
    replace X1 := keep_cell b X1
    replace X2 := keep_cell b X2
    replace X3 := keep_cell b X3
    replace X4 := keep_cell b X4
    replace X5 := keep_cell b X5
    replace X6 := keep_cell b X6
    replace S1 := Lib.hid (SlR.below intR_fits S1.out b)
    replace S2 := Lib.hid (SlR.below intR_fits S2.out b)
    replace B1 := Lib.hid (B1.out.trans (b.mono B1.out.size))
    clear b
    cases hok : reqOk ⟨id, kd, ad, mn, wp, dt, ln⟩
    · clear hok
      go_wp2_with fail
      refine (crOk_any _).mono ?_
      rintro e w4 ⟨rfl, rfl⟩
      go_wp2
      go_ret
      exact ⟨rfl, B1.out⟩
    · have HX := Lib.hid (other hok)
      have HY := Lib.hid (more hok)
      have p := parts hok
      have hid0 := p.id.1
      have hid1 := p.id.2
      (try simp only at hid0 hid1)
      have hm : mn = 1 ∨ mn = 2 ∨ mn = 4 := (adrOk_true.1 p.ad).2.2.1
      have hkinds : (kd = 1 ∧ n = 0) ∨ (kd = 3 ∧ n = 0 ∧ mn = 1) ∨ (kd = 2 ∧ mn = n ∧ 0 < n) ∨ (kd = 4 ∧ mn = 1 ∧ n = 1) := by
        have hd : (dt.length : Int) = manyOf ⟨id, kd, ad, mn, wp, dt, ln⟩ := p.d
        have hh : (kd == 1 || kd == 2 || mn == 1) = true := p.h
        have hk := p.kd
        (try simp only at hk)
        have hkk : kd = 1 ∨ kd = 2 ∨ kd = 3 ∨ kd = 4 := by omega
        have hnn := hn.out
        (try simp only at hnn)
        rcases hkk with rfl | rfl | rfl | rfl
        · left; simp [manyOf, writesB] at hd; exact ⟨rfl, by rw [← hnn, hd]; rfl⟩
        · right; right; left; simp [manyOf, writesB] at hd; exact ⟨rfl, by omega, by omega⟩
        · right; left; simp [manyOf, writesB] at hd; simp at hh; exact ⟨rfl, by rw [← hnn, hd]; rfl, hh⟩
        · right; right; right; simp [manyOf, writesB] at hd; simp at hh; exact ⟨rfl, by omega, by omega⟩
      have zP : w1.heap.size < w3.heap.size := block_of_cell X0
      clear p hok
      have A5 : (((w3.alloc (.cells #[.int .i64 (1 - id), .int .i64 kd, .int .i64 ad, .int .i64 mn, .bool wp, .slice a n c, .slice a2 n2 c2] 91)).alloc (.cells #[.int .i64 id, .int .i64 kd, .int .i64 ad, .int .i64 mn, .bool wp, .slice a n c, .slice a2 n2 c2] 91)).alloc (.cells #[] 3)).cell? ⟨w1.heap.size, 5, none⟩ = some (.slice a n c) := alloc_keep (alloc_keep (alloc_keep X5 _) _) _
      have bC : Below w3.heap.size w3 (((w3.alloc (.cells #[.int .i64 (1 - id), .int .i64 kd, .int .i64 ad, .int .i64 mn, .bool wp, .slice a n c, .slice a2 n2 c2] 91)).alloc (.cells #[.int .i64 id, .int .i64 kd, .int .i64 ad, .int .i64 mn, .bool wp, .slice a n c, .slice a2 n2 c2] 91)).alloc (.cells #[] 3)) := below3 w3 _ _ _
      have HOa : Hid (IntRow (w3.heap.size + 1 + 1) (((w3.alloc (.cells #[.int .i64 (1 - id), .int .i64 kd, .int .i64 ad, .int .i64 mn, .bool wp, .slice a n c, .slice a2 n2 c2] 91)).alloc (.cells #[.int .i64 id, .int .i64 kd, .int .i64 ad, .int .i64 mn, .bool wp, .slice a n c, .slice a2 n2 c2] 91)).alloc (.cells #[] 3)) (.slice (some ⟨w3.heap.size + 1 + 1, 0, none⟩) 0 0) []) := Lib.hid (by have := OwnR.lit (K := 1) (c := IntC) (e := 3) (base := w3.heap.size + 1 + 1) ((w3.alloc (.cells #[.int .i64 (1 - id), .int .i64 kd, .int .i64 ad, .int .i64 mn, .bool wp, .slice a n c, .slice a2 n2 c2] 91)).alloc (.cells #[.int .i64 id, .int .i64 kd, .int .i64 ad, .int .i64 mn, .bool wp, .slice a n c, .slice a2 n2 c2] 91)) #[] 0 [] IntC_len rfl rfl (by simp) (by decide); simpa using this)
      have SAa := Lib.hid (SlR.below intR_fits S1.out bC)
      have BCa := Lib.hid bC
      have hn20 : n ≤ 20 := by have h1 := hn.out; have h2 := HD20.out; (try simp only at h1 h2); omega
      have Y5a : (((w3.alloc (.cells #[.int .i64 (1 - id), .int .i64 kd, .int .i64 ad, .int .i64 mn, .bool wp, .slice a n c, .slice a2 n2 c2] 91)).alloc (.cells #[.int .i64 id, .int .i64 kd, .int .i64 ad, .int .i64 mn, .bool wp, .slice a n c, .slice a2 n2 c2] 91)).alloc (.cells #[] 3)).cell? ⟨w3.heap.size + 1, 5, none⟩ = some (.slice a n c) := by have := alloc_keep (alloc1_new (w3.alloc (.cells #[.int .i64 (1 - id), .int .i64 kd, .int .i64 ad, .int .i64 mn, .bool wp, .slice a n c, .slice a2 n2 c2] 91)) #[.int .i64 id, .int .i64 kd, .int .i64 ad, .int .i64 mn, .bool wp, .slice a n c, .slice a2 n2 c2] 91 5 rfl) (.cells #[] 3); simpa using this
      have Y5f : (((w3.alloc (.cells #[.int .i64 (1 - id), .int .i64 kd, .int .i64 ad, .int .i64 mn, .bool wp, .slice a n c, .slice a2 n2 c2] 91)).alloc (.cells #[.int .i64 id, .int .i64 kd, .int .i64 ad, .int .i64 mn, .bool wp, .slice a n c, .slice a2 n2 c2] 91)).alloc (.cells #[] 3)).frozen? ⟨w3.heap.size + 1, 5, none⟩ = false := by rw [World.frozen?_alloc_past _ _ _ (by simp)]; simp
      have Pa0 := Lib.hid (keep_cell bC X0)
      have Qa0 : Hid ((((w3.alloc (.cells #[.int .i64 (1 - id), .int .i64 kd, .int .i64 ad, .int .i64 mn, .bool wp, .slice a n c, .slice a2 n2 c2] 91)).alloc (.cells #[.int .i64 id, .int .i64 kd, .int .i64 ad, .int .i64 mn, .bool wp, .slice a n c, .slice a2 n2 c2] 91)).alloc (.cells #[] 3)).cell? ⟨w3.heap.size, 0, none⟩ = some (.int .i64 (1 - id))) := Lib.hid (alloc_keep (alloc_keep (alloc1_new w3 _ _ 0 rfl) _) _)
      have Ra0 : Hid ((((w3.alloc (.cells #[.int .i64 (1 - id), .int .i64 kd, .int .i64 ad, .int .i64 mn, .bool wp, .slice a n c, .slice a2 n2 c2] 91)).alloc (.cells #[.int .i64 id, .int .i64 kd, .int .i64 ad, .int .i64 mn, .bool wp, .slice a n c, .slice a2 n2 c2] 91)).alloc (.cells #[] 3)).cell? ⟨w3.heap.size + 1, 0, none⟩ = some (.int .i64 id)) := Lib.hid (by have := alloc_keep (alloc1_new (w3.alloc (.cells #[.int .i64 (1 - id), .int .i64 kd, .int .i64 ad, .int .i64 mn, .bool wp, .slice a n c, .slice a2 n2 c2] 91)) #[.int .i64 id, .int .i64 kd, .int .i64 ad, .int .i64 mn, .bool wp, .slice a n c, .slice a2 n2 c2] 91 0 rfl) (.cells #[] 3); simpa using this)
      have Pa1 := Lib.hid (keep_cell bC X1)
      have Qa1 : Hid ((((w3.alloc (.cells #[.int .i64 (1 - id), .int .i64 kd, .int .i64 ad, .int .i64 mn, .bool wp, .slice a n c, .slice a2 n2 c2] 91)).alloc (.cells #[.int .i64 id, .int .i64 kd, .int .i64 ad, .int .i64 mn, .bool wp, .slice a n c, .slice a2 n2 c2] 91)).alloc (.cells #[] 3)).cell? ⟨w3.heap.size, 1, none⟩ = some (.int .i64 kd)) := Lib.hid (alloc_keep (alloc_keep (alloc1_new w3 _ _ 1 rfl) _) _)
      have Ra1 : Hid ((((w3.alloc (.cells #[.int .i64 (1 - id), .int .i64 kd, .int .i64 ad, .int .i64 mn, .bool wp, .slice a n c, .slice a2 n2 c2] 91)).alloc (.cells #[.int .i64 id, .int .i64 kd, .int .i64 ad, .int .i64 mn, .bool wp, .slice a n c, .slice a2 n2 c2] 91)).alloc (.cells #[] 3)).cell? ⟨w3.heap.size + 1, 1, none⟩ = some (.int .i64 kd)) := Lib.hid (by have := alloc_keep (alloc1_new (w3.alloc (.cells #[.int .i64 (1 - id), .int .i64 kd, .int .i64 ad, .int .i64 mn, .bool wp, .slice a n c, .slice a2 n2 c2] 91)) #[.int .i64 id, .int .i64 kd, .int .i64 ad, .int .i64 mn, .bool wp, .slice a n c, .slice a2 n2 c2] 91 1 rfl) (.cells #[] 3); simpa using this)
      have Pa2 := Lib.hid (keep_cell bC X2)
      have Qa2 : Hid ((((w3.alloc (.cells #[.int .i64 (1 - id), .int .i64 kd, .int .i64 ad, .int .i64 mn, .bool wp, .slice a n c, .slice a2 n2 c2] 91)).alloc (.cells #[.int .i64 id, .int .i64 kd, .int .i64 ad, .int .i64 mn, .bool wp, .slice a n c, .slice a2 n2 c2] 91)).alloc (.cells #[] 3)).cell? ⟨w3.heap.size, 2, none⟩ = some (.int .i64 ad)) := Lib.hid (alloc_keep (alloc_keep (alloc1_new w3 _ _ 2 rfl) _) _)
      have Ra2 : Hid ((((w3.alloc (.cells #[.int .i64 (1 - id), .int .i64 kd, .int .i64 ad, .int .i64 mn, .bool wp, .slice a n c, .slice a2 n2 c2] 91)).alloc (.cells #[.int .i64 id, .int .i64 kd, .int .i64 ad, .int .i64 mn, .bool wp, .slice a n c, .slice a2 n2 c2] 91)).alloc (.cells #[] 3)).cell? ⟨w3.heap.size + 1, 2, none⟩ = some (.int .i64 ad)) := Lib.hid (by have := alloc_keep (alloc1_new (w3.alloc (.cells #[.int .i64 (1 - id), .int .i64 kd, .int .i64 ad, .int .i64 mn, .bool wp, .slice a n c, .slice a2 n2 c2] 91)) #[.int .i64 id, .int .i64 kd, .int .i64 ad, .int .i64 mn, .bool wp, .slice a n c, .slice a2 n2 c2] 91 2 rfl) (.cells #[] 3); simpa using this)
      have Pa3 := Lib.hid (keep_cell bC X3)
      have Qa3 : Hid ((((w3.alloc (.cells #[.int .i64 (1 - id), .int .i64 kd, .int .i64 ad, .int .i64 mn, .bool wp, .slice a n c, .slice a2 n2 c2] 91)).alloc (.cells #[.int .i64 id, .int .i64 kd, .int .i64 ad, .int .i64 mn, .bool wp, .slice a n c, .slice a2 n2 c2] 91)).alloc (.cells #[] 3)).cell? ⟨w3.heap.size, 3, none⟩ = some (.int .i64 mn)) := Lib.hid (alloc_keep (alloc_keep (alloc1_new w3 _ _ 3 rfl) _) _)
      have Ra3 : Hid ((((w3.alloc (.cells #[.int .i64 (1 - id), .int .i64 kd, .int .i64 ad, .int .i64 mn, .bool wp, .slice a n c, .slice a2 n2 c2] 91)).alloc (.cells #[.int .i64 id, .int .i64 kd, .int .i64 ad, .int .i64 mn, .bool wp, .slice a n c, .slice a2 n2 c2] 91)).alloc (.cells #[] 3)).cell? ⟨w3.heap.size + 1, 3, none⟩ = some (.int .i64 mn)) := Lib.hid (by have := alloc_keep (alloc1_new (w3.alloc (.cells #[.int .i64 (1 - id), .int .i64 kd, .int .i64 ad, .int .i64 mn, .bool wp, .slice a n c, .slice a2 n2 c2] 91)) #[.int .i64 id, .int .i64 kd, .int .i64 ad, .int .i64 mn, .bool wp, .slice a n c, .slice a2 n2 c2] 91 3 rfl) (.cells #[] 3); simpa using this)
      have Pa4 := Lib.hid (keep_cell bC X4)
      have Qa4 : Hid ((((w3.alloc (.cells #[.int .i64 (1 - id), .int .i64 kd, .int .i64 ad, .int .i64 mn, .bool wp, .slice a n c, .slice a2 n2 c2] 91)).alloc (.cells #[.int .i64 id, .int .i64 kd, .int .i64 ad, .int .i64 mn, .bool wp, .slice a n c, .slice a2 n2 c2] 91)).alloc (.cells #[] 3)).cell? ⟨w3.heap.size, 4, none⟩ = some (.bool wp)) := Lib.hid (alloc_keep (alloc_keep (alloc1_new w3 _ _ 4 rfl) _) _)
      have Ra4 : Hid ((((w3.alloc (.cells #[.int .i64 (1 - id), .int .i64 kd, .int .i64 ad, .int .i64 mn, .bool wp, .slice a n c, .slice a2 n2 c2] 91)).alloc (.cells #[.int .i64 id, .int .i64 kd, .int .i64 ad, .int .i64 mn, .bool wp, .slice a n c, .slice a2 n2 c2] 91)).alloc (.cells #[] 3)).cell? ⟨w3.heap.size + 1, 4, none⟩ = some (.bool wp)) := Lib.hid (by have := alloc_keep (alloc1_new (w3.alloc (.cells #[.int .i64 (1 - id), .int .i64 kd, .int .i64 ad, .int .i64 mn, .bool wp, .slice a n c, .slice a2 n2 c2] 91)) #[.int .i64 id, .int .i64 kd, .int .i64 ad, .int .i64 mn, .bool wp, .slice a n c, .slice a2 n2 c2] 91 4 rfl) (.cells #[] 3); simpa using this)
      have Pa5 := Lib.hid (keep_cell bC X5)
      have Qa5 : Hid ((((w3.alloc (.cells #[.int .i64 (1 - id), .int .i64 kd, .int .i64 ad, .int .i64 mn, .bool wp, .slice a n c, .slice a2 n2 c2] 91)).alloc (.cells #[.int .i64 id, .int .i64 kd, .int .i64 ad, .int .i64 mn, .bool wp, .slice a n c, .slice a2 n2 c2] 91)).alloc (.cells #[] 3)).cell? ⟨w3.heap.size, 5, none⟩ = some (.slice a n c)) := Lib.hid (alloc_keep (alloc_keep (alloc1_new w3 _ _ 5 rfl) _) _)
      have Pa6 := Lib.hid (keep_cell bC X6)
      have Qa6 : Hid ((((w3.alloc (.cells #[.int .i64 (1 - id), .int .i64 kd, .int .i64 ad, .int .i64 mn, .bool wp, .slice a n c, .slice a2 n2 c2] 91)).alloc (.cells #[.int .i64 id, .int .i64 kd, .int .i64 ad, .int .i64 mn, .bool wp, .slice a n c, .slice a2 n2 c2] 91)).alloc (.cells #[] 3)).cell? ⟨w3.heap.size, 6, none⟩ = some (.slice a2 n2 c2)) := Lib.hid (alloc_keep (alloc_keep (alloc1_new w3 _ _ 6 rfl) _) _)
      have Ra6 : Hid ((((w3.alloc (.cells #[.int .i64 (1 - id), .int .i64 kd, .int .i64 ad, .int .i64 mn, .bool wp, .slice a n c, .slice a2 n2 c2] 91)).alloc (.cells #[.int .i64 id, .int .i64 kd, .int .i64 ad, .int .i64 mn, .bool wp, .slice a n c, .slice a2 n2 c2] 91)).alloc (.cells #[] 3)).cell? ⟨w3.heap.size + 1, 6, none⟩ = some (.slice a2 n2 c2)) := Lib.hid (by have := alloc_keep (alloc1_new (w3.alloc (.cells #[.int .i64 (1 - id), .int .i64 kd, .int .i64 ad, .int .i64 mn, .bool wp, .slice a n c, .slice a2 n2 c2] 91)) #[.int .i64 id, .int .i64 kd, .int .i64 ad, .int .i64 mn, .bool wp, .slice a n c, .slice a2 n2 c2] 91 6 rfl) (.cells #[] 3); simpa using this)
      have Y5h := Lib.hid Y5a
      have Y5g := Lib.hid Y5f
      clear bC Y5a Y5f
      go_upto_region 13 with (at_builtin; first
        | (refine wpList_append_lit (K := 1) (c := IntC) (news := dt) (base := w3.heap.size + 1 + 1) rfl _ _ 23 3 i0 (.int .i64 0) 8 IntC_len rfl Try.underlying23 ki kz0 kz1 kz2 rfl (by decide) (by decide) rfl rfl HOa.out SAa.out (by simp) (by omega) ?_; intro v6 w6 ho6 hb6; have HO6 := Lib.hid ho6; have HB6 := Lib.hid hb6; clear ho6 hb6)
        | (refine wpList_pushR (m := 1) (K := 1) (c := IntC) (l := dt) (news := [0]) (base := w3.heap.size + 1 + 1) rfl _ _ 23 3 i0 (.int .i64 0) 8 3 IntC_len rfl Try.underlying23 ki kz0 kz1 kz2 rfl (by decide) (by decide) rfl rfl HO6.out rfl rfl (by simp [IntC, Value.oneCell']) (by have h1 := hn.out; (try simp only at h1); omega) (by decide) (by have h1 := HB6.out.size; simp at h1; omega) ?_; intro v7 w7 ho7 hb7; go_loud (obtain ⟨va, vn, vc, rfl, _⟩ := OwnR.slice ho7); have HO7 := Lib.hid ho7; go_loud (have HB7 := Lib.hid ((HB6.out.mono (show w3.heap.size + 1 + 1 ≤ _ by simp)).trans hb7)); go_loud (have Y7 := (HB7.out.cell (p := ⟨w3.heap.size + 1, 5, none⟩) (by simp)).trans Y5h.out); go_loud (have Y7f := (HB7.out.frozen (p := ⟨w3.heap.size + 1, 5, none⟩) (by simp)).trans Y5g.out); clear ho7 hb7))
      obtain ⟨W8, hW8⟩ : ∃ W, W = w7.setCell ⟨w3.heap.size + 1, 5, none⟩ (.slice va vn vc) := ⟨_, rfl⟩
      rw [← hW8]
      have P0 : W8.cell? ⟨w1.heap.size, 0, none⟩ = some (.int .i64 id) := by rw [hW8]; exact setFar _ (by omega) ((HB7.out.cell (p := ⟨w1.heap.size, 0, none⟩) (by first | (simp; done) | (simp; omega))).trans Pa0.out)
      have Q0 : W8.cell? ⟨w3.heap.size, 0, none⟩ = some (.int .i64 (1 - id)) := by rw [hW8]; exact setFar _ (by omega) ((HB7.out.cell (p := ⟨w3.heap.size, 0, none⟩) (by first | (simp; done) | (simp; omega))).trans Qa0.out)
      have R0 : W8.cell? ⟨w3.heap.size + 1, 0, none⟩ = some (.int .i64 id) := by rw [hW8]; exact setOther _ (by decide) ((HB7.out.cell (p := ⟨w3.heap.size + 1, 0, none⟩) (by first | (simp; done) | (simp; omega))).trans Ra0.out)
      have P1 : W8.cell? ⟨w1.heap.size, 1, none⟩ = some (.int .i64 kd) := by rw [hW8]; exact setFar _ (by omega) ((HB7.out.cell (p := ⟨w1.heap.size, 1, none⟩) (by first | (simp; done) | (simp; omega))).trans Pa1.out)
      have Q1 : W8.cell? ⟨w3.heap.size, 1, none⟩ = some (.int .i64 kd) := by rw [hW8]; exact setFar _ (by omega) ((HB7.out.cell (p := ⟨w3.heap.size, 1, none⟩) (by first | (simp; done) | (simp; omega))).trans Qa1.out)
      have R1 : W8.cell? ⟨w3.heap.size + 1, 1, none⟩ = some (.int .i64 kd) := by rw [hW8]; exact setOther _ (by decide) ((HB7.out.cell (p := ⟨w3.heap.size + 1, 1, none⟩) (by first | (simp; done) | (simp; omega))).trans Ra1.out)
      have P2 : W8.cell? ⟨w1.heap.size, 2, none⟩ = some (.int .i64 ad) := by rw [hW8]; exact setFar _ (by omega) ((HB7.out.cell (p := ⟨w1.heap.size, 2, none⟩) (by first | (simp; done) | (simp; omega))).trans Pa2.out)
      have Q2 : W8.cell? ⟨w3.heap.size, 2, none⟩ = some (.int .i64 ad) := by rw [hW8]; exact setFar _ (by omega) ((HB7.out.cell (p := ⟨w3.heap.size, 2, none⟩) (by first | (simp; done) | (simp; omega))).trans Qa2.out)
      have R2 : W8.cell? ⟨w3.heap.size + 1, 2, none⟩ = some (.int .i64 ad) := by rw [hW8]; exact setOther _ (by decide) ((HB7.out.cell (p := ⟨w3.heap.size + 1, 2, none⟩) (by first | (simp; done) | (simp; omega))).trans Ra2.out)
      have P3 : W8.cell? ⟨w1.heap.size, 3, none⟩ = some (.int .i64 mn) := by rw [hW8]; exact setFar _ (by omega) ((HB7.out.cell (p := ⟨w1.heap.size, 3, none⟩) (by first | (simp; done) | (simp; omega))).trans Pa3.out)
      have Q3 : W8.cell? ⟨w3.heap.size, 3, none⟩ = some (.int .i64 mn) := by rw [hW8]; exact setFar _ (by omega) ((HB7.out.cell (p := ⟨w3.heap.size, 3, none⟩) (by first | (simp; done) | (simp; omega))).trans Qa3.out)
      have R3 : W8.cell? ⟨w3.heap.size + 1, 3, none⟩ = some (.int .i64 mn) := by rw [hW8]; exact setOther _ (by decide) ((HB7.out.cell (p := ⟨w3.heap.size + 1, 3, none⟩) (by first | (simp; done) | (simp; omega))).trans Ra3.out)
      have P4 : W8.cell? ⟨w1.heap.size, 4, none⟩ = some (.bool wp) := by rw [hW8]; exact setFar _ (by omega) ((HB7.out.cell (p := ⟨w1.heap.size, 4, none⟩) (by first | (simp; done) | (simp; omega))).trans Pa4.out)
      have Q4 : W8.cell? ⟨w3.heap.size, 4, none⟩ = some (.bool wp) := by rw [hW8]; exact setFar _ (by omega) ((HB7.out.cell (p := ⟨w3.heap.size, 4, none⟩) (by first | (simp; done) | (simp; omega))).trans Qa4.out)
      have R4 : W8.cell? ⟨w3.heap.size + 1, 4, none⟩ = some (.bool wp) := by rw [hW8]; exact setOther _ (by decide) ((HB7.out.cell (p := ⟨w3.heap.size + 1, 4, none⟩) (by first | (simp; done) | (simp; omega))).trans Ra4.out)
      have P5 : W8.cell? ⟨w1.heap.size, 5, none⟩ = some (.slice a n c) := by rw [hW8]; exact setFar _ (by omega) ((HB7.out.cell (p := ⟨w1.heap.size, 5, none⟩) (by first | (simp; done) | (simp; omega))).trans Pa5.out)
      have Q5 : W8.cell? ⟨w3.heap.size, 5, none⟩ = some (.slice a n c) := by rw [hW8]; exact setFar _ (by omega) ((HB7.out.cell (p := ⟨w3.heap.size, 5, none⟩) (by first | (simp; done) | (simp; omega))).trans Qa5.out)
      have P6 : W8.cell? ⟨w1.heap.size, 6, none⟩ = some (.slice a2 n2 c2) := by rw [hW8]; exact setFar _ (by omega) ((HB7.out.cell (p := ⟨w1.heap.size, 6, none⟩) (by first | (simp; done) | (simp; omega))).trans Pa6.out)
      have Q6 : W8.cell? ⟨w3.heap.size, 6, none⟩ = some (.slice a2 n2 c2) := by rw [hW8]; exact setFar _ (by omega) ((HB7.out.cell (p := ⟨w3.heap.size, 6, none⟩) (by first | (simp; done) | (simp; omega))).trans Qa6.out)
      have R6 : W8.cell? ⟨w3.heap.size + 1, 6, none⟩ = some (.slice a2 n2 c2) := by rw [hW8]; exact setOther _ (by decide) ((HB7.out.cell (p := ⟨w3.heap.size + 1, 6, none⟩) (by first | (simp; done) | (simp; omega))).trans Ra6.out)
      have R5 : W8.cell? ⟨w3.heap.size + 1, 5, none⟩ = some (.slice va vn vc) := by rw [hW8]; exact setSame _ Y7
      have B37 := Lib.hid (BCa.out.trans (HB7.out.mono (by omega)))
      have h78 : Chg [w3.heap.size + 1] w7 W8 := by rw [hW8]; exact store_chg _
      have b38 : Below w3.heap.size w3 W8 := ((B37.out.chg []).trans h78).home (fun b hb => by simp at hb; omega)
      have S8 := Lib.hid (SlR.below intR_fits S1.out b38)
      have T8 := Lib.hid (SlR.below intR_fits S2.out b38)
      have B8 := Lib.hid (B1.out.trans (b38.mono B1.out.size))
      obtain ⟨f7, s7, hf7, _⟩ := intRow_reads HO7.out
      have Z8 := Lib.hid (s7.chg intR_fits h78 (fun b hb hb2 => by have := hf7 b hb; simp at hb2; omega))
      clear hW8 h78 b38 s7 hf7 Y7 Y7f HO7 HB7 HO6 HB6 B37 S1 S2 B1 HOa SAa BCa A5 Y5h Y5g
      clear Pa0 Pa1 Pa2 Pa3 Pa4 Pa5 Pa6 Qa0 Qa1 Qa2 Qa3 Qa4 Qa5 Qa6 Ra0 Ra1 Ra2 Ra3 Ra4 Ra6 X0 X1 X2 X3 X4 X5 X6
      rcases hkinds with ⟨rfl, rfl⟩ | ⟨rfl, rfl, rfl⟩ | ⟨rfl, rfl, hpos⟩ | ⟨rfl, rfl, rfl⟩
      case' inl => rcases hm with rfl | rfl | rfl
      all_goals
        go_wp2_with fail
        refine (iReqOk_any ⟨1 - id, _, ad, _, wp, dt, ln⟩ _ _ fd fl _ S8.out T8.out).mono ?_
        rw [HX.out]
        rintro e w9 ⟨rfl, b9⟩
        replace P0 := keep_cell b9 P0
        replace P1 := keep_cell b9 P1
        replace P2 := keep_cell b9 P2
        replace P3 := keep_cell b9 P3
        replace P4 := keep_cell b9 P4
        replace P5 := keep_cell b9 P5
        replace P6 := keep_cell b9 P6
        replace Q0 := keep_cell b9 Q0
        replace Q1 := keep_cell b9 Q1
        replace Q2 := keep_cell b9 Q2
        replace Q3 := keep_cell b9 Q3
        replace Q4 := keep_cell b9 Q4
        replace Q5 := keep_cell b9 Q5
        replace Q6 := keep_cell b9 Q6
        replace R0 := keep_cell b9 R0
        replace R1 := keep_cell b9 R1
        replace R2 := keep_cell b9 R2
        replace R3 := keep_cell b9 R3
        replace R4 := keep_cell b9 R4
        replace R5 := keep_cell b9 R5
        replace R6 := keep_cell b9 R6
        replace T8 := Lib.hid (SlR.below intR_fits T8.out b9)
        replace Z8 := Lib.hid (SlR.below intR_fits Z8.out b9)
        replace B8 := Lib.hid (B8.out.trans (b9.mono B8.out.size))
        clear b9
        go_wp2_with fail
        refine (iReqOk_any ⟨id, _, ad, _, wp, dt ++ [0], ln⟩ _ _ f7 fl _ Z8.out T8.out).mono ?_
        rw [HY.out]
        rintro e w10 ⟨rfl, b10⟩
        replace P0 := keep_cell b10 P0
        replace P1 := keep_cell b10 P1
        replace P2 := keep_cell b10 P2
        replace P3 := keep_cell b10 P3
        replace P4 := keep_cell b10 P4
        replace P5 := keep_cell b10 P5
        replace P6 := keep_cell b10 P6
        replace B8 := Lib.hid (B8.out.trans (b10.mono B8.out.size))
        clear b10
        go_wp2
        go_ret
        exact ⟨rfl, B8.out⟩

set_option maxRecDepth 100000 in
theorem lifted (os : Os) (started : os.Started) (H : Type) (enc : TypeId × Value → H) :
    ReturnsInHanded {} Try.checked os 11 .any (Rows.fnReqOkSpec.pre6 enc Try.prog Try.f11 Rows.fnReqOkRow.domain false) (Rows.fnReqOkSpec.post enc Try.prog Try.f11 false true false false) := by
  refine returnsInHanded_of_change (C := Try.checked) own started (by kernel_rfl) Try.func11
    (ChangeSpec.witness6 (enc := enc) (C := Try.checked) false ⟨#[], #[.slice none 0 0], []⟩ 8 (by kernel_rfl) (by kernel_rfl) (by kernel_rfl) (by kernel_rfl)) ?_
  intro W base args ds gs before hval0 hW hcnd _
  have hval : ∀ (j : Nat) t v, Try.f11.params[j]? = some t → args[j]? = some v → Value.okWide Try.prog W .any base t v := hval0
  have hW' := hW
  obtain ⟨p, q, hA0, hV, rfl, hfz, hnd⟩ := hW
  have hA : DataW.TrodAll enc Try.prog W 0 (fun _ => true) true Try.f11.params.toList args.toList ds p := hA0
  rw [Try.params11] at hA hval
  obtain ⟨v0, vs0, d0, ds0, p0, q0, hargs, rfl, rfl, h0, r0⟩ := trodAll_cons hA
  obtain ⟨rfl, rfl, rfl⟩ := trodAll_nil r0
  obtain rfl : args = #[v0] := by cases args; simp_all
  obtain ⟨rfl, rfl⟩ := trodVars_none hV
  clear hA0 hval0
  simp only [List.append_nil] at hW'
  have hlt0 : ∀ x ∈ p0, x.block < W.heap.size := fun x hx => by simpa using hW'.lt x (by simp [hx])
  have hk0 := h0
  obtain ⟨ad0, len0, cap0, rfl⟩ := okWide_slice Try.underlying73 (hval 0 73 v0 rfl rfl)
  obtain ⟨fuel0, hf0⟩ := h0
  obtain ⟨x0, fp0, y0, e0, g0⟩ := (opens_slice Try.underlying73 (by kernel_rfl) (by decide) (opens_byte Try.underlying5) byteR_fits) hf0
  obtain rfl : .slice ad0 len0 cap0 = y0 := by simpa [Value.cells] using e0
  refine (walk (.slice ad0 len0 cap0) x0 fp0 W g0).mono fun e W' ⟨he, hb⟩ => ?_
  subst he
  exact ⟨_, rfl, _, _, _, [], _, [], hW', (trodAll_cons_mk (shut_bool Try.underlying4 _) trodAll_mk0), (trodAll_cons_mk (Below.trod laidOut (by kernel_rfl) (of_decide_eq_true (by kernel_rfl)) hk0 hb hlt0) trodAll_mk0), rfl, hb.frame _, fun h => by cases h⟩

theorem over : Rows.fnReqOkRow.holds Try.pinned (OpenSpec.ofChange Rows.fnReqOkSpec) :=
  OpenClaim.holds_of_wide 11 Try.f11 rfl rfl rfl rfl rfl rfl rfl ⟨rfl, rfl, rfl, rfl, rfl⟩ rfl rfl rfl rfl rfl (by kernel_rfl) Try.func11 (by kernel_rfl)
    (of_decide_eq_true (by kernel_rfl)) (by unfold Func.isWrapper; first | (rw [if_pos (by decide +kernel)]; kernel_rfl) | (rw [if_neg (by decide +kernel)]; exact ⟨rfl, rfl⟩))
    (fun os started H enc _ => lifted os started H enc)

theorem proved : Rows.FnReqOkSaid :=
  over
#print axioms proved
end Go.Proofs.Ytmmojgopeaelcaa.fnReqOk
