/-
  What comes of something: szRspRsp, toRspRsp, eqRspRsp, RspOk (both).
-/
import Derived.Test.YtaeiddoccfaheaaDoorProg
import Derived.Test.YtaeiddoccfaheaaDoorBase
import Derived.Test.YtaeiddoccfaheaaDoorAdr
import Derived.Test.YtaeiddoccfaheaaDoorInts
import Derived.Test.YtaeiddoccfaheaaDoorInts2
import Derived.Test.YtaeiddoccfaheaaDoorOk
import Derived.WalkSmall
import Derived.KernelRfl
namespace Go.Proofs.YtaeiddoccfaheaaDoor
set_option linter.unusedVariables false
set_option linter.unusedSimpArgs false
open Go.RowKit Go.ChangeShapes

structure Rsp where
  id : Int
  code : Int
  data : List Int
  deriving DecidableEq

def rspR : Pr Rsp := fun w x cs fp => ∃ (v : Value) (fq : List Nat), cs = [.int .i64 x.id, .int .i64 x.code, v] ∧ fp = fq ∧ IntS w x.data v fq
theorem rspR_fits : Fits 3 rspR := ⟨fun ⟨v, _, e, _⟩ => by rw [e]; rfl, fun ⟨_, _, _, e, h⟩ => by rw [e]; exact h.lt intR_fits, fun ⟨v, fq, e, e2, h⟩ hs hz => ⟨v, fq, e, e2, h.same intR_fits (by rw [← e2]; exact hs) hz⟩⟩

theorem opens_ints {P : Program} {t e : TypeId} (ht : P.underlying t = some (.slice e)) (he : P.underlying e = some (.int .i64)) (hk : P.cellsOf e = 1) : Opens P t (slR 1 intR) :=
  opens_slice ht hk (by decide) (opens_int he) intR_fits

set_option maxRecDepth 100000 in
theorem opens_rsp : Opens Tryd.prog 24 rspR := fun {H enc w fuel cs x} h => by
  obtain ⟨xs, n, _, _, hl, hx, hf⟩ := DataW.trod_struct Tryd.underlying24 h
  have hk : Tryd.prog.cellsOf 24 = 3 := by kernel_rfl
  have k1 : Tryd.prog.cellsOf 3 = 1 := by kernel_rfl
  have k2 : Tryd.prog.cellsOf 22 = 1 := by kernel_rfl
  rw [hk] at hl
  have hx' : xs.length = 3 := hx
  match cs, hl with
  | [c0, c1, c2], _ =>
    obtain ⟨a, _, ha, _⟩ := opens_int Tryd.underlying3 ((hf 0 _ rfl).trans (List.getElem?_eq_getElem (by omega)))
    obtain ⟨b, _, hb, _⟩ := opens_int Tryd.underlying3 ((hf 1 _ rfl).trans (List.getElem?_eq_getElem (by omega)))
    obtain ⟨l, fp, v, hv, hs⟩ := opens_ints Tryd.underlying22 Tryd.underlying3 (by kernel_rfl) ((hf 2 _ rfl).trans (List.getElem?_eq_getElem (by omega)))
    simp [k1] at ha hb
    simp [k2] at hv
    subst ha hb hv
    exact ⟨⟨a, b, l⟩, fp, c2, fp, rfl, rfl, hs⟩

theorem szRsp_ok {x : Rsp} (h : 0 ≤ szR 1048576 x.data.length) : x.data.length ≤ 1048576 := by unfold szR at h; split at h <;> omega

theorem szRsp_any (x : Rsp) (v : Value) (fp : List Nat) (left : Int) (h0 : 0 ≤ left) (h1 : left ≤ 1048576) (w : World) (g : IntS w x.data v fp) :
    Calls Tryd.prog 7 #[.agg #[.int .i64 x.id, .int .i64 x.code, v], .int .i64 left] w fun e w' => e = .returned (.int .i64 (szR left x.data.length)) ∧ Below w.heap.size w w' := by
  have G := Lib.hid g
  clear g
  have hneg : szR left x.data.length < 0 → szR left x.data.length = -1 := by unfold szR; split <;> omega
  have HN := Lib.hid hneg
  clear hneg
  cases hq : decide (szR left x.data.length < 0)
  all_goals
    go_enter Tryd.func7, Tryd.ntmps7
    go_wp2_with fail
    have hb := below_alloc w (.cells #[.int .i64 x.id, .int .i64 x.code, v] 24)
    refine (szIntS_any v x.data fp left h0 h1 _ (SlR.below intR_fits G.out hb)).mono ?_
    rintro e w' ⟨rfl, rfl⟩
    have HB := Lib.hid hb
    clear hb
    go_wp2
    go_ret
    first
      | exact ⟨rfl, HB.out⟩
      | exact ⟨ret_int (HN.out (of_decide_eq_true hq)).symm, HB.out⟩

theorem eqRsp_any (x y : Rsp) (v1 v2 : Value) (fp1 fp2 : List Nat) (w : World) (g1 : IntS w x.data v1 fp1) (g2 : IntS w y.data v2 fp2) :
    Calls Tryd.prog 11 #[.agg #[.int .i64 x.id, .int .i64 x.code, v1], .agg #[.int .i64 y.id, .int .i64 y.code, v2]] w fun e w' => e = .returned (.bool (decide (x = y))) ∧ Below w.heap.size w w' := by
  have G1 := Lib.hid g1
  have G2 := Lib.hid g2
  clear g1 g2
  have hb : Below w.heap.size w ((w.alloc (.cells #[.int .i64 x.id, .int .i64 x.code, v1] 27)).alloc (.cells #[.int .i64 y.id, .int .i64 y.code, v2] 27)) := ((Below.refl _ _).alloc (Nat.le_refl _) _).alloc (by simp) _
  have HB := Lib.hid hb
  clear hb
  have hd : decide (x = y) = (decide (x.id = y.id) && decide (x.code = y.code) && decide (x.data = y.data)) := by
    cases x; cases y; simp [Bool.and_assoc]
  have HD := Lib.hid hd
  clear hd
  by_cases h1 : x.id = y.id
  · by_cases h2 : x.code = y.code
    · have q1 : (x.id != y.id) = false := by simp [h1]
      have q2 : (x.code != y.code) = false := by simp [h2]
      have H1 := Lib.hid h1
      have H2 := Lib.hid h2
      clear h1 h2
      cases hq : decide (x.data = y.data)
      all_goals
        go_enter Tryd.func11, Tryd.ntmps11
        go_wp2_with fail
        refine (eqIntS_any v1 v2 _ _ fp1 fp2 _ (SlR.below intR_fits G1.out HB.out) (SlR.below intR_fits G2.out HB.out)).mono ?_
        rw [hq]
        rintro e w' ⟨rfl, n, rfl⟩
        go_wp2
        go_ret
        exact ⟨ret_bool (by rw [HD.out, hq, decide_eq_true H1.out, decide_eq_true H2.out]; rfl), below_drewN HB.out _⟩
    · have q1 : (x.id != y.id) = false := by simp [h1]
      have q2 : (x.code != y.code) = true := by simp [h2]
      have H2 := Lib.hid h2
      clear h1 h2
      go_enter Tryd.func11, Tryd.ntmps11
      go_wp2
      go_ret
      exact ⟨ret_bool (by rw [HD.out, decide_eq_false H2.out]; simp), HB.out⟩
  · have q1 : (x.id != y.id) = true := by simp [h1]
    have H1 := Lib.hid h1
    clear h1
    go_enter Tryd.func11, Tryd.ntmps11
    go_wp2
    go_ret
    exact ⟨ret_bool (by rw [HD.out, decide_eq_false H1.out]; simp), HB.out⟩

/-- what may come of something -/
def rspOk (x : Rsp) : Bool := inB x.id 0 1 && (inB x.code 1 4 && (decide (x.data.length ≤ 4) && allIn x.data 0 65535))

theorem iRspOk_any (x : Rsp) (v : Value) (fp : List Nat) (w : World) (g : IntS w x.data v fp) :
    Calls Tryd.prog 27 #[.agg #[.int .i64 x.id, .int .i64 x.code, v]] w fun e w' => e = .returned (.bool (rspOk x)) ∧ Below w.heap.size w w' := by
  have hb := below_alloc w (.cells #[.int .i64 x.id, .int .i64 x.code, v] 27)
  have G := Lib.hid (g.below intR_fits hb)
  obtain ⟨a, n, c, rfl, hn, hcap, hmax, hcm, _⟩ := g.opened
  have HB := Lib.hid hb
  have HN := Lib.hid (show decide (x.data.length ≤ 4) = decide ((n : Int) ≤ 4) by rw [hn.out]; exact decide_eq_decide.2 (by omega))
  clear g hb
  go_enter Tryd.func27, Tryd.ntmps27
  go_wp2_with (first
    | (go_at_call 39; refine (in_any _ _ _ _).mono ?_; rintro e w' ⟨rfl, rfl⟩)
    | (go_at_call 40; refine (areWords_any _ x.data fp _ G.out).mono ?_; rintro e w2 ⟨rfl, b2⟩; have HB2 := Lib.hid (HB.out.trans (b2.mono HB.out.size)); clear b2))
  all_goals go_ret
  all_goals refine ⟨ret_bool ?_, by first | exact HB2.out | exact HB.out⟩
  all_goals unfold rspOk
  all_goals rw [HN.out]
  all_goals (first | (simp [*, wordsB_eq]; done) | (simp [*]; omega))

theorem sRspOk_any (x : Rsp) (v : Value) (fp : List Nat) (w : World) (g : IntS w x.data v fp) :
    Calls Tryd.prog 18 #[.agg #[.int .i64 x.id, .int .i64 x.code, v]] w fun e w' => e = .returned (.bool (rspOk x)) ∧ Below w.heap.size w w' := by
  have hb := below_alloc w (.cells #[.int .i64 x.id, .int .i64 x.code, v] 27)
  have G := Lib.hid (g.below intR_fits hb)
  obtain ⟨a, n, c, rfl, hn, hcap, hmax, hcm, _⟩ := g.opened
  have HB := Lib.hid hb
  have HN := Lib.hid (show decide (x.data.length ≤ 4) = decide ((n : Int) ≤ 4) by rw [hn.out]; exact decide_eq_decide.2 (by omega))
  clear g hb
  go_enter Tryd.func18, Tryd.ntmps18
  go_wp2_with (first
    | (go_at_call 33; refine (l1In_any _ _ _ _).mono ?_; rintro e w' ⟨rfl, rfl⟩)
    | (go_at_call 34; refine (l3All_any _ x.data fp _ _ _ G.out).mono ?_; rintro e w2 ⟨rfl, rfl⟩))
  all_goals go_ret
  all_goals refine ⟨ret_bool ?_, HB.out⟩
  all_goals unfold rspOk
  all_goals rw [HN.out]
  all_goals (first | (simp [*]; done) | (simp [*]; omega))

theorem toRsp_any (x : Rsp) (v : Value) (fp : List Nat) (hs : x.data.length ≤ 1048576) (w : World) (g : IntS w x.data v fp) :
    Calls Tryd.prog 9 #[.agg #[.int .i64 x.id, .int .i64 x.code, v]] w fun e w' => ∃ v' fp', e = .returned (.agg #[.int .i64 x.id, .int .i64 x.code, v']) ∧ IntS w' x.data v' fp' ∧ New fp' w w' ∧ Below w.heap.size w w' := by
  have G := Lib.hid g
  clear g
  go_enter Tryd.func9, Tryd.ntmps9
  go_wp2_with fail
  refine (toIntS_any v x.data fp hs _ (G.out.below intR_fits (below3 _ _ _ _))).mono ?_
  rintro e w1 ⟨v', fp', rfl, g1, n1, b1⟩
  obtain ⟨a', l', k', rfl⟩ := g1.form
  have c10 := keep_cell b1 (alloc3_mid w _ _ _ _ _ 0 rfl)
  have c11 := keep_cell b1 (alloc3_mid w _ _ _ _ _ 1 rfl)
  have c12 := keep_cell b1 (alloc3_mid w _ _ _ _ _ 2 rfl)
  have c20 := keep_cell b1 (alloc3_new w _ _ _ _ _ 0 rfl)
  have c21 := keep_cell b1 (alloc3_new w _ _ _ _ _ 1 rfl)
  have c22 := keep_cell b1 (alloc3_new w _ _ _ _ _ 2 rfl)
  have f1 : ∀ i, w1.frozen? ⟨w.heap.size + 1, i, none⟩ = false := fun i => keep_free b1 (by simp) (alloc3_free w _ _ _ _ _ _ i (.inl rfl))
  have f2 : ∀ i, w1.frozen? ⟨w.heap.size + 1 + 1, i, none⟩ = false := fun i => keep_free b1 (by simp) (alloc3_free w _ _ _ _ _ _ i (.inr rfl))
  have f10 := f1 0
  have f11 := f1 1
  have f12 := f1 2
  have f22 := f2 2
  have G1 := Lib.hid g1
  have N1 := Lib.hid n1
  have B1 := Lib.hid b1
  clear g1 n1 b1 f1 f2
  go_wp2
  have hlo : ∀ b, b ∈ fp' → w.heap.size + 1 + 1 < b := fun b hb => by have := N1.out.lo b hb; simp at this; omega
  have hsame : ∀ {u1 u2 u3 u4 : Value}, Same fp' w1 ((((w1.setCell ⟨w.heap.size + 1 + 1, 2, none⟩ u1).setCell ⟨w.heap.size + 1, 0, none⟩ u2).setCell ⟨w.heap.size + 1, 1, none⟩ u3).setCell ⟨w.heap.size + 1, 2, none⟩ u4) := fun b hb => by
    have := hlo b hb
    rw [Below.heap_setCell _ _ _ _ (by simp; omega), Below.heap_setCell _ _ _ _ (by simp; omega), Below.heap_setCell _ _ _ _ (by simp; omega), Below.heap_setCell _ _ _ _ (by simp; omega)]
  have hB : Below w.heap.size w w1 := (below3 w _ _ _).trans (B1.out.mono (by simp; omega))
  exact bodyPost_ret (v := .agg #[.int .i64 x.id, .int .i64 x.code, .slice a' l' k']) (by simp [results, Tryd.results9, go_sem, c10, c11, c12]) rfl
    ⟨_, fp', rfl, G1.out.same intR_fits hsame (by simp), ⟨fun b hb => by have := hlo b hb; omega, N1.out.once, N1.out.free.same hsame⟩, (((hB.setCell (by simp; omega) _).setCell (by simp) _).setCell (by simp) _).setCell (by simp) _⟩

end Go.Proofs.YtaeiddoccfaheaaDoor
