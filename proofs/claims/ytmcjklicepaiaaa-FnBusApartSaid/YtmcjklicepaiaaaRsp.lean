/-
  What comes of something: szRspRsp, toRspRsp, eqRspRsp, RspOk (both).
-/
import Derived.Test.YtmcjklicepaiaaaProg
import Derived.Test.YtmcjklicepaiaaaBase
import Derived.Test.YtmcjklicepaiaaaAdr
import Derived.Test.YtmcjklicepaiaaaInts
import Derived.Test.YtmcjklicepaiaaaInts2
import Derived.Test.YtmcjklicepaiaaaOk
import Derived.WalkSmall
import Derived.KernelRfl
namespace Go.Proofs.Ytmcjklicepaiaaa
set_option linter.unusedVariables false
set_option linter.unusedSimpArgs false
open Go.RowKit Go.ChangeShapes

structure Rsp where
  id : Int
  code : Int
  data : List Int
  deriving DecidableEq

def rspR : Pr Rsp := fun w x cs fp => ∃ (v : Value) (fq : List Nat), cs = [.int .i64 x.id, .int .i64 x.code, v] ∧ fp = fq ∧ IntS w x.data v fq
theorem rspR_fits : Fits 3 rspR := ⟨fun ⟨v, _, e, _⟩ => by rw [e]; rfl, fun ⟨_, _, _, e, h⟩ => by rw [e]; exact h.lt intR_fits, fun ⟨v, fq, e, e2, h⟩ hs hz => ⟨v, fq, e, e2, h.same intR_fits (by rw [← e2]; exact hs) hz⟩⟩

theorem opens_ints {P : Program} {t e : TypeId} (ht : P.underlying t = some (.slice e)) (he : P.underlying e = some (.int .i64)) (hk : P.cellsOf e = 1) : Opens P t (slR 1 intR) :=
  opens_slice ht hk (by decide) (opens_int he) intR_fits

theorem szRsp_ok {x : Rsp} (h : 0 ≤ szR 1048576 x.data.length) : x.data.length ≤ 1048576 := by unfold szR at h; split at h <;> omega

/-- what may come of something -/
def rspOk (x : Rsp) : Bool := inB x.id 0 1 && (inB x.code 1 4 && (decide (x.data.length ≤ 4) && allIn x.data 0 65535))

theorem iRspOk_any (x : Rsp) (v : Value) (fp : List Nat) (w : World) (g : IntS w x.data v fp) :
    Calls Try.prog 124 #[.agg #[.int .i64 x.id, .int .i64 x.code, v]] w fun e w' => e = .returned (.bool (rspOk x)) ∧ Below w.heap.size w w' := by
  have hb := below_alloc w (.cells #[.int .i64 x.id, .int .i64 x.code, v] 62)
  have G := Lib.hid (g.below intR_fits hb)
  obtain ⟨a, n, c, rfl, hn, hcap, hmax, hcm, _⟩ := g.opened
  have HB := Lib.hid hb
  have HN := Lib.hid (show decide (x.data.length ≤ 4) = decide ((n : Int) ≤ 4) by rw [hn.out]; exact decide_eq_decide.2 (by omega))
  clear g hb
  go_enter Try.func124, Try.ntmps124
  go_wp2_with (first
    | (go_at_call 52; refine (in_any _ _ _ _).mono ?_; rintro e w' ⟨rfl, rfl⟩)
    | (go_at_call 99; refine (areWords_any _ x.data fp _ G.out).mono ?_; rintro e w2 ⟨rfl, b2⟩; have HB2 := Lib.hid (HB.out.trans (b2.mono HB.out.size)); clear b2))
  all_goals go_ret
  all_goals refine ⟨ret_bool ?_, by first | exact HB2.out | exact HB.out⟩
  all_goals unfold rspOk
  all_goals rw [HN.out]
  all_goals (first | (simp [*, wordsB_eq]; done) | (simp [*]; omega))

theorem sRspOk_any (x : Rsp) (v : Value) (fp : List Nat) (w : World) (g : IntS w x.data v fp) :
    Calls Try.prog 128 #[.agg #[.int .i64 x.id, .int .i64 x.code, v]] w fun e w' => e = .returned (.bool (rspOk x)) ∧ Below w.heap.size w w' := by
  have hb := below_alloc w (.cells #[.int .i64 x.id, .int .i64 x.code, v] 62)
  have G := Lib.hid (g.below intR_fits hb)
  obtain ⟨a, n, c, rfl, hn, hcap, hmax, hcm, _⟩ := g.opened
  have HB := Lib.hid hb
  have HN := Lib.hid (show decide (x.data.length ≤ 4) = decide ((n : Int) ≤ 4) by rw [hn.out]; exact decide_eq_decide.2 (by omega))
  clear g hb
  go_enter Try.func128, Try.ntmps128
  go_wp2_with (first
    | (go_at_call 70; refine (l1In_any _ _ _ _).mono ?_; rintro e w' ⟨rfl, rfl⟩)
    | (go_at_call 64; refine (l3All_any _ x.data fp _ _ _ G.out).mono ?_; rintro e w2 ⟨rfl, rfl⟩))
  all_goals go_ret
  all_goals refine ⟨ret_bool ?_, HB.out⟩
  all_goals unfold rspOk
  all_goals rw [HN.out]
  all_goals (first | (simp [*]; done) | (simp [*]; omega))

end Go.Proofs.Ytmcjklicepaiaaa
