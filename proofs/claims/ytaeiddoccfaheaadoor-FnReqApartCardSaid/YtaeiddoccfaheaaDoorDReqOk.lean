/-
  What DrawReqOk, DrawReqText, DrawReqSlave draw: what is asked, and ranges.
-/
import Derived.Test.YtaeiddoccfaheaaDoorProg
import Derived.Test.YtaeiddoccfaheaaDoorBase
import Derived.Test.YtaeiddoccfaheaaDoorDReq
namespace Go.Proofs.YtaeiddoccfaheaaDoor
set_option linter.unusedVariables false
set_option linter.unusedSimpArgs false
open Go.RowKit

set_option maxRecDepth 100000 in
theorem drawReqText_any (v : Value) (l : List Int) (fp : List Nat) (w : World) (g : ByteS w l v fp) :
    Calls Tryd.prog 21 #[v] w fun e w' => ∃ (x : Req) (vd vl : Value) (fd fl : List Nat), e = .returned (.agg #[.int .i64 x.id, .int .i64 x.kind, .int .i64 x.addr, .int .i64 x.many, .bool x.wrap, vd, vl]) ∧ SlR 1 intR w' x.data vd fd ∧ SlR 1 intR w' x.lanes vl fl ∧ x.data.length ≤ 20 ∧ x.lanes.length ≤ 20 ∧ Below w.heap.size w w' := by
  have hb := below_alloc w (.cells #[.int .i64 0, .int .i64 0, .int .i64 0, .int .i64 0, .bool false, .slice none 0 0, .slice none 0 0] 35)
  have G := Lib.hid (SlR.below byteR_fits g hb)
  have B := Lib.hid hb
  clear g hb
  go_enter Tryd.func21, Tryd.ntmps21
  go_wp2_with fail
  refine (l20Open_any v l fp _ G.out).mono ?_
  rintro e w1 ⟨rb, fq, rfl, hrb, hfq, h0, b0⟩
  have HALL0 : Hid (∀ j, j < 7 → ∃ u, w1.cell? ⟨w.heap.size, j, none⟩ = some u) := Lib.hid (fun j hj => ⟨_, keep_cell b0 (alloc1_new w _ _ j (by simp [hj]; rfl))⟩)
  have HF0 : Hid (∀ j, w1.frozen? ⟨w.heap.size, j, none⟩ = false) := Lib.hid (fun j => keep_free b0 (by simp) (alloc1_free w _ _ j))
  have H0 := Lib.hid h0
  have B0 := Lib.hid (B.out.trans (b0.mono B.out.size))
  have hrb' : w.heap.size < rb := by simp at hrb; omega
  have hz1 : w.heap.size < w1.heap.size := by have := b0.size; simp at this; omega
  have nr : w.heap.size ∉ [rb] := by simp; omega
  have fl : ∀ b, b ∈ fq → b < w1.heap.size := fun b hb => by have := hfq b hb; have := b0.size; omega
  have FL := Lib.hid fl
  clear h0 b0 fl
  go_wp2_with fail
  refine (l20Req_any rb fq 0 4 (by omega) (by omega) (by omega) _ H0.out FL.out).mono ?_
  rintro e w2 ⟨x, vd, vl, fd, fl, rfl, hs, hsl, hl, hl2, _, hfd, h2, c2⟩
  have HALL : Hid (∀ j, j < 7 → ∃ u, w2.cell? ⟨w.heap.size, j, none⟩ = some u) := Lib.hid (fun j hj => by obtain ⟨u, hu⟩ := HALL0.out j hj; exact ⟨u, keep_cell_chg c2 hu nr⟩)
  obtain ⟨q0, m0⟩ := HALL.out 0 (by omega)
  have f0 := (World.frozen?_of_block (c2.block w.heap.size hz1 nr)).trans (HF0.out 0)
  obtain ⟨q1, m1⟩ := HALL.out 1 (by omega)
  have f1 := (World.frozen?_of_block (c2.block w.heap.size hz1 nr)).trans (HF0.out 1)
  obtain ⟨q2, m2⟩ := HALL.out 2 (by omega)
  have f2 := (World.frozen?_of_block (c2.block w.heap.size hz1 nr)).trans (HF0.out 2)
  obtain ⟨q3, m3⟩ := HALL.out 3 (by omega)
  have f3 := (World.frozen?_of_block (c2.block w.heap.size hz1 nr)).trans (HF0.out 3)
  obtain ⟨q4, m4⟩ := HALL.out 4 (by omega)
  have f4 := (World.frozen?_of_block (c2.block w.heap.size hz1 nr)).trans (HF0.out 4)
  obtain ⟨q5, m5⟩ := HALL.out 5 (by omega)
  have f5 := (World.frozen?_of_block (c2.block w.heap.size hz1 nr)).trans (HF0.out 5)
  obtain ⟨q6, m6⟩ := HALL.out 6 (by omega)
  have f6 := (World.frozen?_of_block (c2.block w.heap.size hz1 nr)).trans (HF0.out 6)
  have S2 := Lib.hid hs
  have SL2 := Lib.hid hsl
  have HL := Lib.hid hl
  have HL2 := Lib.hid hl2
  have HFD := Lib.hid hfd
  have HB := Lib.hid (((B0.out.chg [rb]).trans' c2).home (fun b hb => by simp at hb; omega))
  obtain ⟨va, vn, vc, rfl⟩ := hs.form
  obtain ⟨ua, un, uc, rfl⟩ := hsl.form
  clear hs hsl h2 c2 hl hl2 hfd HALL0
  go_wp2
  have hc3 := putCells_chg (fp := [w.heap.size]) (g := w.heap.size) (List.mem_cons_self ..) [.int .i64 x.id, .int .i64 x.kind, .int .i64 x.addr, .int .i64 x.many, .bool x.wrap, .slice va vn vc, .slice ua un uc] w2 0
  have hM := put7 HALL.out [.int .i64 x.id, .int .i64 x.kind, .int .i64 x.addr, .int .i64 x.many, .bool x.wrap, .slice va vn vc, .slice ua un uc] rfl
  have M0 := hM 0 (by show 0 < 7; decide)
  have M1 := hM 1 (by show 1 < 7; decide)
  have M2 := hM 2 (by show 2 < 7; decide)
  have M3 := hM 3 (by show 3 < 7; decide)
  have M4 := hM 4 (by show 4 < 7; decide)
  have M5 := hM 5 (by show 5 < 7; decide)
  have M6 := hM 6 (by show 6 < 7; decide)
  simp only [putCells, List.getElem_cons_zero, List.getElem_cons_succ, Nat.zero_add, Nat.reduceAdd] at hc3 M0 M1 M2 M3 M4 M5 M6
  refine bodyPost_ret (v := .agg #[.int .i64 x.id, .int .i64 x.kind, .int .i64 x.addr, .int .i64 x.many, .bool x.wrap, .slice va vn vc, .slice ua un uc]) (by simp [results, Tryd.results21, go_sem, M0, M1, M2, M3, M4, M5, M6]) rfl ?_
  exact ⟨x, _, _, fd, fl, rfl, S2.out.chg intR_fits hc3 (fun b hb hb' => by have := HFD.out b (by simp [hb]); simp at hb'; omega), SL2.out.chg intR_fits hc3 (fun b hb hb' => by have := HFD.out b (by simp [hb]); simp at hb'; omega), HL.out, HL2.out, ((HB.out.chg []).trans hc3).home (fun b hb => by simp at hb; omega)⟩

end Go.Proofs.YtaeiddoccfaheaaDoor
