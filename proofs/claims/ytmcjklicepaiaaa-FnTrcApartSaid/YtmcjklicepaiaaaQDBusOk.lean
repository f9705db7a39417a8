/-
  What DrawBusOk draws: a bus.
-/
import Derived.Test.YtmcjklicepaiaaaQDBusOr
import Derived.Test.YtmcjklicepaiaaaQBusOk
import Derived.Test.YtmcjklicepaiaaaQBus
namespace Go.Proofs.Ytmcjklicepaiaaa
set_option linter.unusedVariables false
set_option linter.unusedSimpArgs false
open Go.RowKit Go.ChangeShapes Go.WideShapes

theorem Step.bare {fq : List Nat} {T : Tab} {w w' : World} (s : Step fq (fun _ => none) w T w') : Chg fq w w' := ⟨s.os, s.tape, s.output, s.size, fun k hk hn => s.block k hk hn rfl⟩

/-- a bus that reads so -/
structure BusRd (w : World) (x : Bus) (v0 v1 v2 : Value) : Prop where
  mp : ∃ fp, SlR 4 mrR w x.map v0 fp
  lat : ∃ fp, SlR 1 intR w x.lat v1 fp
  prg : ∃ fp, SlR 1 (slR 7 reqR) w x.progs v2 fp

theorem BusPost.reads {G : Gd} {L0 : List Nat} {rb : Nat} {fq : List Nat} {T0 : Tab} {w w3 w4 : World} {M : Int} {e : Ending} {T : Tab} {lm : List MR} {fm : List Nat} {va la pa : Option Addr} {vn vc ln lc pn pc : Nat} {fp : List Nat}
    (h : BusPost G L0 rb fq T0 w M e w3 T lm fm va vn vc la ln lc pa pn pc) (hc : Chg fp w3 w4) (hq : ∀ b, b ∈ fp → b ∈ L0) : ∃ x : Bus, x.map = lm ∧ BusRd w4 x (.slice va vn vc) (.slice la ln lc) (.slice pa pn pc) := by
  have ht := h.th.chg hc hq
  obtain ⟨ll, fl, hl⟩ := h.lat.t.ints ht h.lat.1 h.lat.2.1
  obtain ⟨pl, fl2, hp, -⟩ := h.prg.t.progs ht h.prg.1 h.prg.2.1
  exact ⟨⟨lm, ll, pl⟩, rfl, ⟨fm, h.mp.same mrR_fits (h.fz.same (Step.of_chg hc) hq) hc.size⟩, ⟨fl, hl⟩, ⟨fl2, hp⟩⟩

set_option maxRecDepth 100000 in
set_option maxHeartbeats 3200000 in
theorem drawBusOk_any (v : Value) (l : List Int) (fp : List Nat) (w : World) (g : ByteS w l v fp) :
    Calls Try.prog 17 #[v] w fun e w' => ∃ (x : Bus) (va la pa : Option Addr) (vn vc ln lc pn pc : Nat), e = .returned (.agg #[.slice va vn vc, .slice la ln lc, .slice pa pn pc]) ∧ BusRd w' x (.slice va vn vc) (.slice la ln lc) (.slice pa pn pc) ∧ x.map.length ≤ 7 ∧ Below w.heap.size w w' := by
  obtain ⟨w1, hw1⟩ : ∃ z, z = w.alloc (.cells #[.slice none 0 0, .slice none 0 0, .slice none 0 0] 38) := ⟨_, rfl⟩
  have b1 : Below w.heap.size w w1 := by rw [hw1]; exact below_alloc _ _
  have z1 : w.heap.size < w1.heap.size := by rw [hw1]; simp
  have r0 : w1.cell? ⟨w.heap.size, 0, none⟩ = some (.slice none 0 0) := by rw [hw1]; exact alloc1_new _ _ _ 0 rfl
  have r1 : w1.cell? ⟨w.heap.size, 1, none⟩ = some (.slice none 0 0) := by rw [hw1]; exact alloc1_new _ _ _ 1 rfl
  have r2 : w1.cell? ⟨w.heap.size, 2, none⟩ = some (.slice none 0 0) := by rw [hw1]; exact alloc1_new _ _ _ 2 rfl
  have rf : ∀ o, w1.frozen? ⟨w.heap.size, o, none⟩ = false := fun o => by rw [hw1]; exact alloc1_free _ _ _ _
  have G := Lib.hid (SlR.below byteR_fits g b1)
  have B := Lib.hid b1
  clear g b1
  go_enter Try.func17, Try.ntmps17
  go_upto_region 1 with fail
  rw [← hw1]
  clear hw1
  go_wp2_with fail
  refine (l20Open_any v l fp _ G.out).mono ?_
  rintro e w2 ⟨rb, fq, rfl, hrb, hfq, h0, b0⟩
  replace r0 := keep_cell b0 r0
  replace r1 := keep_cell b0 r1
  replace r2 := keep_cell b0 r2
  have f0 := keep_free b0 z1 (rf 0)
  have f1 := keep_free b0 z1 (rf 1)
  have f2 := keep_free b0 z1 (rf 2)
  have z2 := b0.size
  have hnr : w.heap.size ∉ [rb] := by simp; omega
  have hto : ∀ c, c ∈ w.heap.size :: rb :: fq → c < w2.heap.size := fun c hc => by
    rcases List.mem_cons.1 hc with rfl | hc
    · omega
    · rcases List.mem_cons.1 hc with rfl | hc
      · exact h0.lt
      · exact h0.old c hc
  have B0 := Lib.hid (B.out.trans (b0.mono B.out.size))
  have H0 := Lib.hid h0
  have HT0 := Lib.hid (TH.empty gFit (w.heap.size :: rb :: fq) w2 hto)
  clear h0 b0 rf hto
  go_wp2_with fail
  refine (l20BusOr_any (w.heap.size :: rb :: fq) rb fq 0 2 (by omega) (by omega) (by omega) _ _ (by simp) (fun b hb => by simp [hb]) H0.out HT0.out).mono ?_
  rintro e w3 ⟨T, lm, fm, va, vn, vc, la, ln, lc, pa, pn, pc, hp, hml⟩
  have c2 := hp.st.bare
  replace r0 := keep_cell_chg c2 r0 hnr
  replace r1 := keep_cell_chg c2 r1 hnr
  replace r2 := keep_cell_chg c2 r2 hnr
  replace f0 := (World.frozen?_of_block (c2.block w.heap.size (by omega) hnr)).trans f0
  replace f1 := (World.frozen?_of_block (c2.block w.heap.size (by omega) hnr)).trans f1
  replace f2 := (World.frozen?_of_block (c2.block w.heap.size (by omega) hnr)).trans f2
  have HB := Lib.hid (((B0.out.chg [rb]).trans' c2).home (fun b hb => by simp at hb; omega))
  have HP := Lib.hid hp
  have HML := Lib.hid hml
  have e0 := hp.ret
  clear hp hml c2 H0 HT0
  rw [e0]
  clear e0
  go_wp2
  have hchg : Chg [w.heap.size] w3 (((w3.setCell ⟨w.heap.size, 0, none⟩ (.slice va vn vc)).setCell ⟨w.heap.size, 1, none⟩ (.slice la ln lc)).setCell ⟨w.heap.size, 2, none⟩ (.slice pa pn pc)) := (store_chg _).trans' ((store_chg _).trans' (store_chg _))
  obtain ⟨x, hx, hr⟩ := HP.out.reads hchg (by simp)
  refine bodyPost_ret (v := .agg #[.slice va vn vc, .slice la ln lc, .slice pa pn pc]) (by simp [results, Try.results17, go_sem, put3_0 _ _ _ r0, put3_1 _ _ _ r1, put3_2 _ _ _ r2]) rfl ?_
  exact ⟨x, va, la, pa, vn, vc, ln, lc, pn, pc, rfl, hr, by rw [hx]; exact HML.out, ((HB.out.chg []).trans hchg).home (fun b hb => by simp at hb; omega)⟩

end Go.Proofs.Ytmcjklicepaiaaa
