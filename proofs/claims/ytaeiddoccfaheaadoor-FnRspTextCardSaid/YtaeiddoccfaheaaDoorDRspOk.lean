/-
  What DrawRspOk, DrawRspText draw: what comes of something.
-/
import Derived.Test.YtaeiddoccfaheaaDoorProg
import Derived.Test.YtaeiddoccfaheaaDoorBase
import Derived.Test.YtaeiddoccfaheaaDoorDRsp
namespace Go.Proofs.YtaeiddoccfaheaaDoor
set_option linter.unusedVariables false
set_option linter.unusedSimpArgs false
open Go.RowKit

set_option maxRecDepth 100000 in
theorem drawRspText_any (v : Value) (l : List Int) (fp : List Nat) (w : World) (g : ByteS w l v fp) :
    Calls Tryd.prog 17 #[v] w fun e w' => ∃ (x : Rsp) (vd : Value) (fd : List Nat), e = .returned (.agg #[.int .i64 x.id, .int .i64 x.code, vd]) ∧ SlR 1 intR w' x.data vd fd ∧ x.data.length ≤ 5 ∧ Below w.heap.size w w' := by
  have hb := below_alloc w (.cells #[.int .i64 0, .int .i64 0, .slice none 0 0] 27)
  have G := Lib.hid (SlR.below byteR_fits g hb)
  have B := Lib.hid hb
  clear g hb
  go_enter Tryd.func17, Tryd.ntmps17
  go_wp2_with fail
  refine (l20Open_any v l fp _ G.out).mono ?_
  rintro e w1 ⟨rb, fq, rfl, hrb, hfq, h0, b0⟩
  have m0 := keep_cell b0 (alloc1_new w _ _ 0 rfl)
  have m1 := keep_cell b0 (alloc1_new w _ _ 1 rfl)
  have m2 := keep_cell b0 (alloc1_new w _ _ 2 rfl)
  have f0 := keep_free b0 (by simp) (alloc1_free w _ _ 0)
  have f1 := keep_free b0 (by simp) (alloc1_free w _ _ 1)
  have f2 := keep_free b0 (by simp) (alloc1_free w _ _ 2)
  have H0 := Lib.hid h0
  have B0 := Lib.hid (B.out.trans (b0.mono B.out.size))
  have hrb' : w.heap.size < rb := by simp at hrb; omega
  have hz1 : w.heap.size < w1.heap.size := by have := b0.size; simp at this; omega
  have nr : w.heap.size ∉ [rb] := by simp; omega
  have fl : ∀ b, b ∈ fq → b < w1.heap.size := fun b hb => by have := hfq b hb; have := b0.size; omega
  have FL := Lib.hid fl
  clear h0 b0 fl
  go_wp2_with fail
  refine (l20Rsp_any rb fq 0 5 (by omega) (by omega) (by omega) _ H0.out FL.out).mono ?_
  rintro e w2 ⟨x, vd, fd, rfl, hs, hl, hfd, h2, c2⟩
  replace m0 := keep_cell_chg c2 m0 nr
  replace m1 := keep_cell_chg c2 m1 nr
  replace m2 := keep_cell_chg c2 m2 nr
  replace f0 := (World.frozen?_of_block (c2.block w.heap.size hz1 nr)).trans f0
  replace f1 := (World.frozen?_of_block (c2.block w.heap.size hz1 nr)).trans f1
  replace f2 := (World.frozen?_of_block (c2.block w.heap.size hz1 nr)).trans f2
  have S2 := Lib.hid hs
  have HL := Lib.hid hl
  have HFD := Lib.hid hfd
  have HB := Lib.hid (((B0.out.chg [rb]).trans' c2).home (fun b hb => by simp at hb; omega))
  obtain ⟨va, vn, vc, rfl⟩ := hs.form
  clear hs h2 c2 hl hfd
  go_wp2
  have hc3 := chg3 w.heap.size w2 (.int .i64 x.id) (.int .i64 x.code) (.slice va vn vc)
  refine bodyPost_ret (v := .agg #[.int .i64 x.id, .int .i64 x.code, .slice va vn vc]) (by simp [results, Tryd.results17, go_sem, put3_0 _ _ _ m0, put3_1 _ _ _ m1, put3_2 _ _ _ m2]) rfl ?_
  exact ⟨x, _, fd, rfl, S2.out.chg intR_fits hc3 (fun b hb hb' => by have := HFD.out b hb; simp at hb'; omega), HL.out, ((HB.out.chg []).trans hc3).home (fun b hb => by simp at hb; omega)⟩

end Go.Proofs.YtaeiddoccfaheaaDoor
