/-
  Proved: the Go function laws.FnBusOk returns true for every code, and the code reads afterwards as before: both answer alike whether a bus is ok; of one that is, with each program shorter by its last, it still is, and with a first latency too great it is not.
  Conditions: none.
-/
import Derived.Test.YtmcjklicepaiaaaLift
import Derived.Test.YtmcjklicepaiaaaDBusOk
import Derived.Test.YtmcjklicepaiaaaCr
import Derived.Test.YtmcjklicepaiaaaFacts2
import Derived.Test.YtmcjklicepaiaaaRegion6
import Derived.Test.YtmcjklicepaiaaaTr
import Derived.Test.YtmcjklicepaiaaaFacts3
namespace Go.Proofs.Ytmcjklicepaiaaa.fnBusOk
set_option linter.unusedVariables false
set_option linter.unusedSimpArgs false
open Go.ChangeShapes Go.WideShapes Go.ChangeAt Go.RowKit

/-- a program without its last -/
def cut (p : List Req) : List Req := p.take (p.length - 1)
theorem cut_ok {p : List Req} (h : progOk p = true) : progOk (cut p) = true := by
  unfold progOk at h ⊢
  rw [Bool.and_eq_true] at h ⊢
  refine ⟨decide_eq_true ?_, ?_⟩
  · have := of_decide_eq_true h.1
    unfold cut
    rw [List.length_take]
    omega
  · rw [List.all_eq_true] at h ⊢
    intro x hx
    exact h.2 x (List.mem_of_mem_take hx)
theorem cuts_ok {x : Bus} (h : busOk x = true) : busOk ⟨x.map, x.lat, x.progs.map cut⟩ = true := by
  unfold busOk at h ⊢
  simp only [Bool.and_eq_true] at h ⊢
  obtain ⟨h1, h2, h3, h4, h5⟩ := h
  refine ⟨h1, h2, h3, decide_eq_true (by rw [List.length_map]; exact of_decide_eq_true h4), ?_⟩
  rw [List.all_eq_true] at h5 ⊢
  intro p hp
  obtain ⟨q, hq, rfl⟩ := List.mem_map.1 hp
  exact cut_ok (h5 q hq)
theorem slow_bad (x : Bus) (r : List Int) : busOk ⟨x.map, 4 :: r, x.progs⟩ = false := by
  unfold busOk
  rw [show allIn (4 :: r) 0 3 = false from by unfold allIn; rw [List.all_cons]; rfl]
  simp
theorem ok_lens {x : Bus} (h : busOk x = true) : x.lat.length = 4 ∧ x.progs.length = 3 := by
  unfold busOk at h
  simp only [Bool.and_eq_true] at h
  exact ⟨of_decide_eq_true h.2.1, of_decide_eq_true h.2.2.2.1⟩
theorem intC_flat (l : List Int) : l.flatMap IntC = l.map (Value.int .i64) := by
  induction l with
  | nil => rfl
  | cons x l ih => rw [List.flatMap_cons, ih]; rfl
def FOne (u : Value) : Fact := fun v w => ∃ b : Nat, v = .slice (some ⟨b, 0, none⟩) 1 1 ∧ w.cell? ⟨b, 0, none⟩ = some u
theorem stOne (u : Value) : Stable [] (FOne u) := fun _ _ _ ⟨b, e, h⟩ hc => ⟨b, e, keep_cell_chg hc h (by simp)⟩

/-- a new block of three slices that are nil -/
def FBlk3 (n : Nat) : Fact := fun v w => ∃ q : Nat, v = .pointer (some ⟨q, 0, none⟩) ∧ n ≤ q ∧ w.cell? ⟨q, 0, none⟩ = some (.slice none 0 0) ∧ w.cell? ⟨q, 1, none⟩ = some (.slice none 0 0) ∧ w.cell? ⟨q, 2, none⟩ = some (.slice none 0 0) ∧ (∀ o, w.frozen? ⟨q, o, none⟩ = false) ∧ NoInt w q
theorem stBlk3 (n : Nat) : Stable [] (FBlk3 n) := fun _ _ _ ⟨q, e, h0, h1, h2, h3, h4, h5⟩ hc => by
  have hb := hc.below
  exact ⟨q, e, h0, keep_cell hb h1, keep_cell hb h2, keep_cell hb h3, fun o => keep_free hb (block_of_cell h1) (h4 o), fun i x h => h5 i x ((hb.cell (p := ⟨q, i, none⟩) (show q < _ from block_of_cell h1)).symm.trans h)⟩
/-- a struct of three slices, of which the second reads so -/
def FBld (v0 v2 : Value) (l : List Int) : Fact := fun v w => ∃ (a6 : Option Addr) (n6 c6 : Nat) (f6 : List Nat), v = .agg #[v0, .slice a6 n6 c6, v2] ∧ SlR 1 intR w l (.slice a6 n6 c6) f6
theorem stBld (v0 v2 : Value) (l : List Int) : Stable [] (FBld v0 v2 l) := fun _ _ _ ⟨a6, n6, c6, f6, e, h⟩ hc => ⟨a6, n6, c6, f6, e, h.chg intR_fits hc (fun _ _ => by simp)⟩
theorem noInt3 (w : World) (T : TypeId) : NoInt (w.alloc (.cells #[.slice none 0 0, .slice none 0 0, .slice none 0 0] T)) w.heap.size := by
  intro i x h
  rw [World.cell?_alloc_at _ _ _ _ rfl] at h
  match i, h with
  | 0, h => cases h
  | 1, h => cases h
  | 2, h => cases h
  | i + 3, h => simp at h

set_option maxRecDepth 100000 in
set_option maxHeartbeats 6400000 in
theorem walk (v : Value) (l0 : List Int) (fp0 : List Nat) (w : World) (g : ByteS w l0 v fp0) :
    Calls Try.prog 4 #[v] w fun e w' => e = .returned (.bool true) ∧ Below w.heap.size w w' := by
  obtain ⟨a0, n0, c0, rfl, hn0, hcap0, hmax0, hcm0, _⟩ := g.opened
  obtain ⟨i1, li, lz0, lz1, lz2⟩ := info_parts infoInt
  obtain ⟨i2, pi, pz0, pz1, pz2⟩ := info_parts infoReqs
  have G := Lib.hid g
  clear g
  by_cases hb : 1048576 < n0
  · go_enter Try.func4, Try.ntmps4
    go_wp2
    go_ret
    exact ⟨rfl, Below.refl _ _⟩
  · go_enter Try.func4, Try.ntmps4
    go_wp2_with fail
    refine (drawBusOk_any _ l0 fp0 w G.out).mono ?_
    rintro e w1 ⟨x, va, la, pa, vn, vc, ln, lc, pn, pc, rfl, hr, hml, b1⟩
    obtain ⟨fm, hm⟩ := hr.mp
    obtain ⟨fl, hl⟩ := hr.lat
    obtain ⟨fg, hg⟩ := hr.prg
    have ba := below_alloc w1 (.cells #[.slice va vn vc, .slice la ln lc, .slice pa pn pc] 38)
    have SM := Lib.hid (SlR.below mrR_fits hm ba)
    have SL := Lib.hid (SlR.below intR_fits hl ba)
    have SP := Lib.hid (SlR.below (slR_fits reqR_fits) hg ba)
    have B1 := Lib.hid (b1.trans (ba.mono b1.size))
    clear hr hm hl hg b1 hml ba G
    go_wp2_with fail
    refine (iBusOk_any x _ _ _ fm fl fg _ SM.out SL.out SP.out).mono ?_
    obtain ⟨b, hbb⟩ : ∃ b, b = busOk x := ⟨_, rfl⟩
    rw [← hbb]
    have HBB := Lib.hid hbb
    clear hbb
    rintro e w2 ⟨rfl, b2⟩
    have P0 : w2.cell? ⟨w1.heap.size, 0, none⟩ = some (.slice va vn vc) := keep_cell b2 (alloc1_new w1 _ _ 0 rfl)
    have P1 : w2.cell? ⟨w1.heap.size, 1, none⟩ = some (.slice la ln lc) := keep_cell b2 (alloc1_new w1 _ _ 1 rfl)
    have P2 : w2.cell? ⟨w1.heap.size, 2, none⟩ = some (.slice pa pn pc) := keep_cell b2 (alloc1_new w1 _ _ 2 rfl)
    have hz2 : w1.heap.size < w2.heap.size := block_of_cell P0
    replace SM := Lib.hid (SlR.below mrR_fits SM.out b2)
    replace SL := Lib.hid (SlR.below intR_fits SL.out b2)
    replace SP := Lib.hid (SlR.below (slR_fits reqR_fits) SP.out b2)
    replace B1 := Lib.hid (B1.out.trans (b2.mono B1.out.size))
    clear b2
    generalize w1.heap.size = cx at *
    go_wp2_with fail
    refine (sBusOk_any x _ _ _ fm fl fg _ SM.out SL.out SP.out).mono ?_
    rw [← HBB.out]
    rintro e w3 ⟨rfl, b3⟩
    have hz3 := b3.size
    replace P0 := keep_cell b3 P0
    replace P1 := keep_cell b3 P1
    replace P2 := keep_cell b3 P2
    replace SM := Lib.hid (SlR.below mrR_fits SM.out b3)
    replace SL := Lib.hid (SlR.below intR_fits SL.out b3)
    replace SP := Lib.hid (SlR.below (slR_fits reqR_fits) SP.out b3)
    replace B1 := Lib.hid (B1.out.trans (b3.mono B1.out.size))
    clear b3
    cases b
    · go_wp2_with fail
      refine (crOk_any _).mono ?_
      rintro e w4 ⟨rfl, rfl⟩
      go_wp2
      go_ret
      exact ⟨rfl, B1.out⟩
    · have HLen := Lib.hid (ok_lens HBB.out.symm)
      obtain ⟨lb, lo, hla⟩ : ∃ lb lo, la = some ⟨lb, lo, none⟩ := by
        obtain ⟨_, _, _, e, hn, _, _, _, r⟩ := SL.out.opened
        cases e
        obtain ⟨_, b, off, f, cs, rfl, _⟩ := r 0 (by have := hn.out; have := HLen.out.1; omega)
        exact ⟨b, off, rfl⟩
      subst hla
      obtain ⟨pb, po, hpa⟩ : ∃ pb po, pa = some ⟨pb, po, none⟩ := by
        obtain ⟨_, _, _, e, hn, _, _, _, r⟩ := SP.out.opened
        cases e
        obtain ⟨_, b, off, f, cs, rfl, _⟩ := r 0 (by have := hn.out; have := HLen.out.2; omega)
        exact ⟨b, off, rfl⟩
      subst hpa
      have hln4 : 4 = ln := by
        obtain ⟨_, _, _, e, hn, _⟩ := SL.out.opened
        cases e
        rw [← hn.out, HLen.out.1]
      subst hln4
      have hpn3 : 3 = pn := by
        obtain ⟨_, _, _, e, hn, _⟩ := SP.out.opened
        cases e
        rw [← hn.out, HLen.out.2]
      subst hpn3
      obtain ⟨W, hW⟩ : ∃ z, z = w3.alloc (.cells #[.slice va vn vc, .slice (some ⟨lb, lo, none⟩) 4 lc, .slice none 0 0] 38) := ⟨_, rfl⟩
      have bW : Below w3.heap.size w3 W := by rw [hW]; exact below_alloc _ _
      have hzW : W.heap.size = w3.heap.size + 1 := by rw [hW]; simp
      have X0 : W.cell? ⟨w3.heap.size, 0, none⟩ = some (.slice va vn vc) := by rw [hW]; exact alloc1_new _ _ _ 0 rfl
      have X1 : W.cell? ⟨w3.heap.size, 1, none⟩ = some (.slice (some ⟨lb, lo, none⟩) 4 lc) := by rw [hW]; exact alloc1_new _ _ _ 1 rfl
      have X2 : W.cell? ⟨w3.heap.size, 2, none⟩ = some (.slice none 0 0) := by rw [hW]; exact alloc1_new _ _ _ 2 rfl
      have XF : ∀ o, W.frozen? ⟨w3.heap.size, o, none⟩ = false := fun o => by rw [hW]; exact alloc1_free _ _ _ _
      have hwx0 := B1.out.size
      have HFM : Hid (∀ q, q ∈ fm → q < w3.heap.size) := Lib.hid (SM.out.lt mrR_fits)
      have HFL : Hid (∀ q, q ∈ fl → q < w3.heap.size) := Lib.hid (SL.out.lt intR_fits)
      have HFG : Hid (∀ q, q ∈ fg → q < w3.heap.size) := Lib.hid (SP.out.lt (slR_fits reqR_fits))
      have YX0 := Lib.hid X0
      have YX1 := Lib.hid X1
      have YX2 := Lib.hid X2
      have YXF := Lib.hid XF
      have YP0 := Lib.hid (keep_cell bW P0)
      have YP1 := Lib.hid (keep_cell bW P1)
      have YP2 := Lib.hid (keep_cell bW P2)
      replace SM := Lib.hid (SlR.below mrR_fits SM.out bW)
      replace SL := Lib.hid (SlR.below intR_fits SL.out bW)
      replace SP := Lib.hid (SlR.below (slR_fits reqR_fits) SP.out bW)
      replace B1 := Lib.hid (B1.out.trans (bW.mono B1.out.size))
      have hwx : w.heap.size ≤ w3.heap.size := hwx0
      have HO0 : Hid (OwnR 1 trC 41 W.heap.size W (.slice none 0 0) ([] : List (Tr (List Req) 1))) := Lib.hid (OwnR.nil W _)
      go_upto_region 10 with fail
      rw [← hW]
      clear hW bW X0 X1 X2 XF P0 P1 P2
      have P2 := YP2.out
      go_wp2_with fail
      generalize hxb : w3.heap.size = xb at *
      go_loopw [6] (fun i wr => ∃ (k : Nat) (v : Value) (L : List (Tr (List Req) 1)), k ≤ 3 ∧ i = .int .i64 k ∧ wr.cell? ⟨xb, 0, none⟩ = some (.slice va vn vc) ∧ wr.cell? ⟨xb, 1, none⟩ = some (.slice (some ⟨lb, lo, none⟩) 4 lc) ∧ wr.cell? ⟨xb, 2, none⟩ = some v ∧ (∀ o, wr.frozen? ⟨xb, o, none⟩ = false) ∧ OwnR 1 trC 41 W.heap.size wr v L ∧ L.map (·.1) = (x.progs.take k).map cut ∧ (∀ p, p ∈ L → slR 7 reqR W p.1 p.2.1.1 p.2.2 ∧ ∀ q, q ∈ p.2.2 → q < xb) ∧ Chg [xb] W wr) (fun i _ => 3 - (intOf i).toNat)
      case atStart => exact ⟨0, _, [], by omega, rfl, YX0.out, YX1.out, YX2.out, YXF.out, HO0.out, rfl, fun p h => by simp at h, Chg.refl _ _⟩
      case round =>
        obtain ⟨k, v, L, hk, rfl, xc0, xc1, xc, xf, hown, hmap, hels, hch⟩ := hrel
        have HO := Lib.hid hown
        have HMap := Lib.hid hmap
        have HEls := Lib.hid hels
        have HCh := Lib.hid hch
        obtain ⟨a1, n1, c1, rfl, hn1, -, -⟩ := hown.slice
        have hL3 : L.length ≤ 3 := by
          have := congrArg List.length hmap
          simp at this
          omega
        have HN1 := Lib.hid hn1
        have nxb : cx ∉ [xb] := by simp; omega
        have pc2 := keep_cell_chg hch YP2.out nxb
        clear hown hmap hels hn1
        by_cases hlt : k < 3
        · have hlti : (k : Int) < 3 := by omega
          have hkp : k < x.progs.length := by rw [HLen.out.2]; exact hlt
          obtain ⟨_, _, _, ep, -, -, -, -, rp⟩ := SP.out.opened
          cases ep
          obtain ⟨_, b5, o5, f5, cs, e5, hb5, hbf, hff, ⟨y, rfl, hy⟩, ec⟩ := rp k hlt
          cases e5
          have Y0 := ec 0 (by simp)
          simp only [Nat.mul_one, Nat.add_zero, List.getElem_cons_zero] at Y0
          obtain ⟨ya, yn, yc, rfl, hyn, hyc, hymax, hycm, -⟩ := hy.opened
          have y0 := keep_cell_chg hch Y0 (by have := HFG.out _ hbf; simp; omega)
          obtain ⟨mm, hmm⟩ : ∃ z, z = yn - 1 := ⟨_, rfl⟩
          have hml2 : mm ≤ yn := by omega
          have hcp : mm ≤ yc := by omega
          have hcpi : (mm : Int) ≤ (yc : Int) := by omega
          have HMM := Lib.hid hmm
          have HY := Lib.hid hy
          have HF5 : Hid (∀ q, q ∈ f5 → q < xb) := Lib.hid (fun q hq => HFG.out q (hff q hq))
          have HYN := Lib.hid hyn.out
          clear rp ec hy hmm hyn Y0 hch
          go_wp2_with fail
          have hst : ∀ F, F ∈ [FEq (.pointer (some ⟨xb, 2, none⟩)), FEq (.slice a1 n1 c1), FEq (.pointer (some ⟨cx, 2, none⟩)), FEq (.slice (some ⟨pb, po, none⟩) 3 pc), FEq (.int .i64 (k : Int)), FEq (.pointer (some ⟨pb, po + k, none⟩)), FEq (.slice ya yn yc), FEq (.pointer (some ⟨cx, 2, none⟩)), FEq (.slice (some ⟨pb, po, none⟩) 3 pc), FEq (.int .i64 (k : Int)), FEq (.pointer (some ⟨pb, po + k, none⟩)), FEq (.slice ya yn yc), FEq (.int .i64 (yn : Int)), FEq (.int .i64 ((yn : Int) - 1)), FEq (.int .i64 (mm : Int)), FEq (.slice ya mm yc), FOne (.slice ya mm yc)] → Stable [] F := by
            simp only [List.forall_mem_cons]
            exact ⟨stEq _ _, stEq _ _, stEq _ _, stEq _ _, stEq _ _, stEq _ _, stEq _ _, stEq _ _, stEq _ _, stEq _ _, stEq _ _, stEq _ _, stEq _ _, stEq _ _, stEq _ _, stEq _ _, stOne _, fun _ h => by simp at h⟩
          refine wp_region_tail (by kernel_rfl) (fun i => ([[], [0], [], [2], [], [2, 3, 4], [2, 3, 4, 5], [], [7], [], [7, 8, 9], [7, 8, 9, 10], [7, 8, 9, 10, 11], [7, 8, 9, 10, 11, 12], [7, 8, 9, 10, 11, 12, 13], [2, 3, 4, 5, 6, 7, 8, 9, 10, 11, 12, 13, 14], [2, 3, 4, 5, 6, 7, 8, 9, 10, 11, 12, 13, 14, 15], [0, 1, 2, 3, 4, 5, 6, 7, 8, 9, 10, 11, 12, 13, 14, 15, 16], [0, 1, 2, 3, 4, 5, 6, 7, 8, 9, 10, 11, 12, 13, 14, 15, 16, 17], [0, 1, 2, 3, 4, 5, 6, 7, 8, 9, 10, 11, 12, 13, 14, 15, 16, 17, 18]] : List (List Nat)).getD i []) (facts [FEq (.pointer (some ⟨xb, 2, none⟩)), FEq (.slice a1 n1 c1), FEq (.pointer (some ⟨cx, 2, none⟩)), FEq (.slice (some ⟨pb, po, none⟩) 3 pc), FEq (.int .i64 (k : Int)), FEq (.pointer (some ⟨pb, po + k, none⟩)), FEq (.slice ya yn yc), FEq (.pointer (some ⟨cx, 2, none⟩)), FEq (.slice (some ⟨pb, po, none⟩) 3 pc), FEq (.int .i64 (k : Int)), FEq (.pointer (some ⟨pb, po + k, none⟩)), FEq (.slice ya yn yc), FEq (.int .i64 (yn : Int)), FEq (.int .i64 ((yn : Int) - 1)), FEq (.int .i64 (mm : Int)), FEq (.slice ya mm yc), FOne (.slice ya mm yc)]) (fun m w' => Below wr.heap.size wr w') 70 20 17 [some 34, some 35, some 36, some 37, some 38, some 39, some 40, some 41, some 42, some 43, some 44, some 45, some 46, some 47, some 48, some 49, some 50] _ rfl rfl (by decide) rfl rfl (by kernel_rfl) (by kernel_rfl) [] (by kernel_rfl) (fun g b hm v w h => by simp at hm) ?h0 (all_lt (n := 17) ?hop) ?hend
          case h0 => exact (Below.refl _ _).drew
          case hop =>
            refine ⟨⟨⟨⟨⟨⟨⟨⟨⟨⟨⟨⟨⟨⟨⟨⟨⟨trivial, ?_⟩, ?_⟩, ?_⟩, ?_⟩, ?_⟩, ?_⟩, ?_⟩, ?_⟩, ?_⟩, ?_⟩, ?_⟩, ?_⟩, ?_⟩, ?_⟩, ?_⟩, ?_⟩, ?_⟩
            · refine Owes.mk _ rfl rfl (fun _ _ h => by cases h) fun u m w' hm hI hR => ⟨⟨#[undef, undef, undef, undef, undef, .pointer (some ⟨xb, 0, none⟩), undef, undef, undef, undef, undef, undef, undef, undef, undef, undef, undef, undef, undef, undef, undef, undef, undef, undef, undef, undef, undef, undef, undef, undef, undef, undef, undef, undef, undef, undef, undef, undef, undef, undef, undef, undef, undef, undef, undef, undef, undef, undef, undef, undef, undef, undef, undef, undef, undef, undef, undef, undef, undef, undef, undef, undef, undef, undef, undef, undef, undef, undef, undef, undef], []⟩, rfl, fun d hd => by cases hd; exact (by decide : 34 < 70), ?_⟩
              have k0 := keep_cell hI xc
              have k1 := keep_cell hI pc2
              have k2 := keep_cell hI y0
              have HI := Lib.hid hI
              clear hI hst hR
              go_wp2
              exact ⟨rfl, _, rfl, rfl, HI.out, fun _ _ h => h⟩
            · refine Owes.mk _ rfl rfl (fun _ _ h => by cases h) fun u m w' hm hI hR => ⟨⟨#[undef, undef, undef, undef, undef, undef, undef, undef, undef, undef, undef, undef, undef, undef, undef, undef, undef, undef, undef, undef, undef, undef, undef, undef, undef, undef, undef, undef, undef, undef, undef, undef, undef, undef, u 0, undef, undef, undef, undef, undef, undef, undef, undef, undef, undef, undef, undef, undef, undef, undef, undef, undef, undef, undef, undef, undef, undef, undef, undef, undef, undef, undef, undef, undef, undef, undef, undef, undef, undef, undef], []⟩, rfl, fun d hd => by cases hd; exact (by decide : 35 < 70), ?_⟩
              have e0 : u 0 = _ := hR 0 (by decide)
              have k0 := keep_cell hI xc
              have k1 := keep_cell hI pc2
              have k2 := keep_cell hI y0
              have HI := Lib.hid hI
              clear hI hst hR
              rw [e0]
              clear e0
              go_wp2
              exact ⟨rfl, _, rfl, rfl, HI.out, fun _ _ h => h⟩
            · refine Owes.mk _ rfl rfl (fun _ _ h => by cases h) fun u m w' hm hI hR => ⟨⟨#[undef, undef, undef, .pointer (some ⟨cx, 0, none⟩), undef, undef, undef, undef, undef, undef, undef, undef, undef, undef, undef, undef, undef, undef, undef, undef, undef, undef, undef, undef, undef, undef, undef, undef, undef, undef, undef, undef, undef, undef, undef, undef, undef, undef, undef, undef, undef, undef, undef, undef, undef, undef, undef, undef, undef, undef, undef, undef, undef, undef, undef, undef, undef, undef, undef, undef, undef, undef, undef, undef, undef, undef, undef, undef, undef, undef], []⟩, rfl, fun d hd => by cases hd; exact (by decide : 36 < 70), ?_⟩
              have k0 := keep_cell hI xc
              have k1 := keep_cell hI pc2
              have k2 := keep_cell hI y0
              have HI := Lib.hid hI
              clear hI hst hR
              go_wp2
              exact ⟨rfl, _, rfl, rfl, HI.out, fun _ _ h => h⟩
            · refine Owes.mk _ rfl rfl (fun _ _ h => by cases h) fun u m w' hm hI hR => ⟨⟨#[undef, undef, undef, undef, undef, undef, undef, undef, undef, undef, undef, undef, undef, undef, undef, undef, undef, undef, undef, undef, undef, undef, undef, undef, undef, undef, undef, undef, undef, undef, undef, undef, undef, undef, undef, undef, u 2, undef, undef, undef, undef, undef, undef, undef, undef, undef, undef, undef, undef, undef, undef, undef, undef, undef, undef, undef, undef, undef, undef, undef, undef, undef, undef, undef, undef, undef, undef, undef, undef, undef], []⟩, rfl, fun d hd => by cases hd; exact (by decide : 37 < 70), ?_⟩
              have e2 : u 2 = _ := hR 2 (by decide)
              have k0 := keep_cell hI xc
              have k1 := keep_cell hI pc2
              have k2 := keep_cell hI y0
              have HI := Lib.hid hI
              clear hI hst hR
              rw [e2]
              clear e2
              go_wp2
              exact ⟨rfl, _, rfl, rfl, HI.out, fun _ _ h => h⟩
            · refine Owes.mk _ rfl rfl (fun _ _ h => by cases h) fun u m w' hm hI hR => ⟨⟨#[undef, undef, undef, undef, undef, undef, .int .i64 (k : Int), undef, undef, undef, undef, undef, undef, undef, undef, undef, undef, undef, undef, undef, undef, undef, undef, undef, undef, undef, undef, undef, undef, undef, undef, undef, undef, undef, undef, undef, undef, undef, undef, undef, undef, undef, undef, undef, undef, undef, undef, undef, undef, undef, undef, undef, undef, undef, undef, undef, undef, undef, undef, undef, undef, undef, undef, undef, undef, undef, undef, undef, undef, undef], []⟩, rfl, fun d hd => by cases hd; exact (by decide : 38 < 70), ?_⟩
              have k0 := keep_cell hI xc
              have k1 := keep_cell hI pc2
              have k2 := keep_cell hI y0
              have HI := Lib.hid hI
              clear hI hst hR
              go_wp2
              exact ⟨rfl, _, rfl, rfl, HI.out, fun _ _ h => h⟩
            · refine Owes.mk _ rfl rfl (fun _ _ h => by cases h) fun u m w' hm hI hR => ⟨⟨#[undef, undef, undef, undef, undef, undef, undef, undef, undef, undef, undef, undef, undef, undef, undef, undef, undef, undef, undef, undef, undef, undef, undef, undef, undef, undef, undef, undef, undef, undef, undef, undef, undef, undef, undef, undef, undef, u 3, u 4, undef, undef, undef, undef, undef, undef, undef, undef, undef, undef, undef, undef, undef, undef, undef, undef, undef, undef, undef, undef, undef, undef, undef, undef, undef, undef, undef, undef, undef, undef, undef], []⟩, rfl, fun d hd => by cases hd; exact (by decide : 39 < 70), ?_⟩
              have e3 : u 3 = _ := hR 3 (by decide)
              have e4 : u 4 = _ := hR 4 (by decide)
              have k0 := keep_cell hI xc
              have k1 := keep_cell hI pc2
              have k2 := keep_cell hI y0
              have HI := Lib.hid hI
              clear hI hst hR
              rw [e3, e4]
              clear e3 e4
              go_wp2
              exact ⟨rfl, _, rfl, rfl, HI.out, fun _ _ h => h⟩
            · refine Owes.mk _ rfl rfl (fun _ _ h => by cases h) fun u m w' hm hI hR => ⟨⟨#[undef, undef, undef, undef, undef, undef, undef, undef, undef, undef, undef, undef, undef, undef, undef, undef, undef, undef, undef, undef, undef, undef, undef, undef, undef, undef, undef, undef, undef, undef, undef, undef, undef, undef, undef, undef, undef, undef, undef, u 5, undef, undef, undef, undef, undef, undef, undef, undef, undef, undef, undef, undef, undef, undef, undef, undef, undef, undef, undef, undef, undef, undef, undef, undef, undef, undef, undef, undef, undef, undef], []⟩, rfl, fun d hd => by cases hd; exact (by decide : 40 < 70), ?_⟩
              have e5 : u 5 = _ := hR 5 (by decide)
              have k0 := keep_cell hI xc
              have k1 := keep_cell hI pc2
              have k2 := keep_cell hI y0
              have HI := Lib.hid hI
              clear hI hst hR
              rw [e5]
              clear e5
              go_wp2
              exact ⟨rfl, _, rfl, rfl, HI.out, fun _ _ h => h⟩
            · refine Owes.mk _ rfl rfl (fun _ _ h => by cases h) fun u m w' hm hI hR => ⟨⟨#[undef, undef, undef, .pointer (some ⟨cx, 0, none⟩), undef, undef, undef, undef, undef, undef, undef, undef, undef, undef, undef, undef, undef, undef, undef, undef, undef, undef, undef, undef, undef, undef, undef, undef, undef, undef, undef, undef, undef, undef, undef, undef, undef, undef, undef, undef, undef, undef, undef, undef, undef, undef, undef, undef, undef, undef, undef, undef, undef, undef, undef, undef, undef, undef, undef, undef, undef, undef, undef, undef, undef, undef, undef, undef, undef, undef], []⟩, rfl, fun d hd => by cases hd; exact (by decide : 41 < 70), ?_⟩
              have k0 := keep_cell hI xc
              have k1 := keep_cell hI pc2
              have k2 := keep_cell hI y0
              have HI := Lib.hid hI
              clear hI hst hR
              go_wp2
              exact ⟨rfl, _, rfl, rfl, HI.out, fun _ _ h => h⟩
            · refine Owes.mk _ rfl rfl (fun _ _ h => by cases h) fun u m w' hm hI hR => ⟨⟨#[undef, undef, undef, undef, undef, undef, undef, undef, undef, undef, undef, undef, undef, undef, undef, undef, undef, undef, undef, undef, undef, undef, undef, undef, undef, undef, undef, undef, undef, undef, undef, undef, undef, undef, undef, undef, undef, undef, undef, undef, undef, u 7, undef, undef, undef, undef, undef, undef, undef, undef, undef, undef, undef, undef, undef, undef, undef, undef, undef, undef, undef, undef, undef, undef, undef, undef, undef, undef, undef, undef], []⟩, rfl, fun d hd => by cases hd; exact (by decide : 42 < 70), ?_⟩
              have e7 : u 7 = _ := hR 7 (by decide)
              have k0 := keep_cell hI xc
              have k1 := keep_cell hI pc2
              have k2 := keep_cell hI y0
              have HI := Lib.hid hI
              clear hI hst hR
              rw [e7]
              clear e7
              go_wp2
              exact ⟨rfl, _, rfl, rfl, HI.out, fun _ _ h => h⟩
            · refine Owes.mk _ rfl rfl (fun _ _ h => by cases h) fun u m w' hm hI hR => ⟨⟨#[undef, undef, undef, undef, undef, undef, .int .i64 (k : Int), undef, undef, undef, undef, undef, undef, undef, undef, undef, undef, undef, undef, undef, undef, undef, undef, undef, undef, undef, undef, undef, undef, undef, undef, undef, undef, undef, undef, undef, undef, undef, undef, undef, undef, undef, undef, undef, undef, undef, undef, undef, undef, undef, undef, undef, undef, undef, undef, undef, undef, undef, undef, undef, undef, undef, undef, undef, undef, undef, undef, undef, undef, undef], []⟩, rfl, fun d hd => by cases hd; exact (by decide : 43 < 70), ?_⟩
              have k0 := keep_cell hI xc
              have k1 := keep_cell hI pc2
              have k2 := keep_cell hI y0
              have HI := Lib.hid hI
              clear hI hst hR
              go_wp2
              exact ⟨rfl, _, rfl, rfl, HI.out, fun _ _ h => h⟩
            · refine Owes.mk _ rfl rfl (fun _ _ h => by cases h) fun u m w' hm hI hR => ⟨⟨#[undef, undef, undef, undef, undef, undef, undef, undef, undef, undef, undef, undef, undef, undef, undef, undef, undef, undef, undef, undef, undef, undef, undef, undef, undef, undef, undef, undef, undef, undef, undef, undef, undef, undef, undef, undef, undef, undef, undef, undef, undef, undef, u 8, u 9, undef, undef, undef, undef, undef, undef, undef, undef, undef, undef, undef, undef, undef, undef, undef, undef, undef, undef, undef, undef, undef, undef, undef, undef, undef, undef], []⟩, rfl, fun d hd => by cases hd; exact (by decide : 44 < 70), ?_⟩
              have e8 : u 8 = _ := hR 8 (by decide)
              have e9 : u 9 = _ := hR 9 (by decide)
              have k0 := keep_cell hI xc
              have k1 := keep_cell hI pc2
              have k2 := keep_cell hI y0
              have HI := Lib.hid hI
              clear hI hst hR
              rw [e8, e9]
              clear e8 e9
              go_wp2
              exact ⟨rfl, _, rfl, rfl, HI.out, fun _ _ h => h⟩
            · refine Owes.mk _ rfl rfl (fun _ _ h => by cases h) fun u m w' hm hI hR => ⟨⟨#[undef, undef, undef, undef, undef, undef, undef, undef, undef, undef, undef, undef, undef, undef, undef, undef, undef, undef, undef, undef, undef, undef, undef, undef, undef, undef, undef, undef, undef, undef, undef, undef, undef, undef, undef, undef, undef, undef, undef, undef, undef, undef, undef, undef, u 10, undef, undef, undef, undef, undef, undef, undef, undef, undef, undef, undef, undef, undef, undef, undef, undef, undef, undef, undef, undef, undef, undef, undef, undef, undef], []⟩, rfl, fun d hd => by cases hd; exact (by decide : 45 < 70), ?_⟩
              have e10 : u 10 = _ := hR 10 (by decide)
              have k0 := keep_cell hI xc
              have k1 := keep_cell hI pc2
              have k2 := keep_cell hI y0
              have HI := Lib.hid hI
              clear hI hst hR
              rw [e10]
              clear e10
              go_wp2
              exact ⟨rfl, _, rfl, rfl, HI.out, fun _ _ h => h⟩
            · refine Owes.mk _ rfl rfl (fun _ _ h => by cases h) fun u m w' hm hI hR => ⟨⟨#[undef, undef, undef, undef, undef, undef, undef, undef, undef, undef, undef, undef, undef, undef, undef, undef, undef, undef, undef, undef, undef, undef, undef, undef, undef, undef, undef, undef, undef, undef, undef, undef, undef, undef, undef, undef, undef, undef, undef, undef, undef, undef, undef, undef, undef, u 11, undef, undef, undef, undef, undef, undef, undef, undef, undef, undef, undef, undef, undef, undef, undef, undef, undef, undef, undef, undef, undef, undef, undef, undef], []⟩, rfl, fun d hd => by cases hd; exact (by decide : 46 < 70), ?_⟩
              have e11 : u 11 = _ := hR 11 (by decide)
              have k0 := keep_cell hI xc
              have k1 := keep_cell hI pc2
              have k2 := keep_cell hI y0
              have HI := Lib.hid hI
              clear hI hst hR
              rw [e11]
              clear e11
              go_wp2
              exact ⟨rfl, _, rfl, rfl, HI.out, fun _ _ h => h⟩
            · refine Owes.mk _ rfl rfl (fun _ _ h => by cases h) fun u m w' hm hI hR => ⟨⟨#[undef, undef, undef, undef, undef, undef, undef, undef, undef, undef, undef, undef, undef, undef, undef, undef, undef, undef, undef, undef, undef, undef, undef, undef, undef, undef, undef, undef, undef, undef, undef, undef, undef, undef, undef, undef, undef, undef, undef, undef, undef, undef, undef, undef, undef, undef, u 12, undef, undef, undef, undef, undef, undef, undef, undef, undef, undef, undef, undef, undef, undef, undef, undef, undef, undef, undef, undef, undef, undef, undef], []⟩, rfl, fun d hd => by cases hd; exact (by decide : 47 < 70), ?_⟩
              have e12 : u 12 = _ := hR 12 (by decide)
              have k0 := keep_cell hI xc
              have k1 := keep_cell hI pc2
              have k2 := keep_cell hI y0
              rw [e12]
              clear e12
              have HI := Lib.hid hI
              clear hI hst hR
              go_wp2
              exact ⟨rfl, _, rfl, (by show _ = _; go_num), HI.out, fun _ _ h => h⟩
            · refine Owes.mk _ rfl rfl (fun _ _ h => by cases h) fun u m w' hm hI hR => ⟨⟨#[undef, undef, undef, undef, undef, undef, undef, undef, undef, undef, undef, undef, undef, undef, undef, undef, undef, undef, undef, undef, undef, undef, undef, undef, undef, undef, undef, undef, undef, undef, undef, undef, undef, undef, undef, undef, undef, undef, undef, undef, undef, undef, undef, undef, undef, undef, undef, u 13, undef, undef, undef, undef, undef, undef, undef, undef, undef, undef, undef, undef, undef, undef, undef, undef, undef, undef, undef, undef, undef, undef], []⟩, rfl, fun d hd => by cases hd; exact (by decide : 48 < 70), ?_⟩
              have e13 : u 13 = _ := hR 13 (by decide)
              have k0 := keep_cell hI xc
              have k1 := keep_cell hI pc2
              have k2 := keep_cell hI y0
              rw [e13]
              clear e13
              have HI := Lib.hid hI
              clear hI hst hR
              go_wp2
              all_goals exact ⟨rfl, _, rfl, (by show Value.int .i64 _ = Value.int .i64 _; congr 1; have := HMM.out; omega), HI.out, fun _ _ h => h⟩
            · refine Owes.mk _ rfl rfl (fun _ _ h => by cases h) fun u m w' hm hI hR => ⟨⟨#[undef, undef, undef, undef, undef, undef, undef, undef, undef, undef, undef, undef, undef, undef, undef, undef, undef, undef, undef, undef, undef, undef, undef, undef, undef, undef, undef, undef, undef, undef, undef, undef, undef, undef, undef, undef, undef, undef, undef, undef, u 6, undef, undef, undef, undef, undef, undef, undef, u 14, undef, undef, undef, undef, undef, undef, undef, undef, undef, undef, undef, undef, undef, undef, undef, undef, undef, undef, undef, undef, undef], []⟩, rfl, fun d hd => by cases hd; exact (by decide : 49 < 70), ?_⟩
              have e6 : u 6 = _ := hR 6 (by decide)
              have e14 : u 14 = _ := hR 14 (by decide)
              have k0 := keep_cell hI xc
              have k1 := keep_cell hI pc2
              have k2 := keep_cell hI y0
              have HI := Lib.hid hI
              clear hI hst hR
              rw [e6, e14]
              clear e6 e14
              go_wp2
              exact ⟨rfl, _, rfl, rfl, HI.out, fun _ _ h => h⟩
            · refine Owes.mk _ rfl rfl (fun _ _ h => by cases h) fun u m w' hm hI hR => ⟨⟨#[undef, undef, undef, undef, undef, undef, undef, undef, undef, undef, undef, undef, undef, undef, undef, undef, undef, undef, undef, undef, undef, undef, undef, undef, undef, undef, undef, undef, undef, undef, undef, undef, undef, undef, undef, undef, undef, undef, undef, undef, undef, undef, undef, undef, undef, undef, undef, undef, undef, u 15, undef, undef, undef, undef, undef, undef, undef, undef, undef, undef, undef, undef, undef, undef, undef, undef, undef, undef, undef, undef], []⟩, rfl, fun d hd => by cases hd; exact (by decide : 50 < 70), ?_⟩
              have e15 : u 15 = _ := hR 15 (by decide)
              have k0 := keep_cell hI xc
              have k1 := keep_cell hI pc2
              have k2 := keep_cell hI y0
              rw [e15]
              clear e15
              have ba := below_alloc w' (.cells #[.slice ya mm yc] 41)
              have HS8 := Lib.hid (facts_stable hst (ba.chg []))
              have HB8 := Lib.hid (hI.trans (ba.mono hI.size))
              clear hI hst hR ba
              go_wp2
              exact ⟨rfl, _, rfl, ⟨w'.heap.size, rfl, alloc_new _ _ _⟩, HB8.out, HS8.out⟩
          case hend =>
            intro u w' hI hR
            simp only [setAll, List.set_cons_zero, List.set_cons_succ]
            have e1 : u 1 = _ := hR 1 (by decide)
            obtain ⟨b7, e7, c7⟩ := hR 16 (by decide)
            rw [e1, e7]
            obtain ⟨f6, h6, hf6⟩ := HY.out.take mm hml2
            obtain ⟨p, hp⟩ : ∃ p : Tr (List Req) 1, p = (x.progs[k].take mm, ⟨[.slice ya mm yc], rfl⟩, f6) := ⟨_, rfl⟩
            have HOw := Lib.hid (OwnR.below HO.out hI)
            have hxbr : xb < wr.heap.size := block_of_cell xc
            have hbase : W.heap.size ≤ w'.heap.size := by have := HCh.out.size; have := hI.size; omega
            have hnews : ∀ (j : Nat) (u : Value), ([p].flatMap trC)[j]? = some u → w'.cell? ((⟨b7, 0, none⟩ : Addr).add j) = some u := fun j u hj => by
              rw [hp] at hj
              have hj0 : j = 0 := by have := (List.getElem?_eq_some_iff.1 hj).1; simpa [trC] using this
              subst hj0
              simp [trC] at hj
              subst hj
              exact c7
            have hone : ∀ u ∈ [p].flatMap trC, u.oneCell' = true := fun u hu => by
              rw [hp] at hu
              simp [trC] at hu
              subst hu
              rfl
            have HMap2 : Hid ((L ++ [p]).map (·.1) = (x.progs.take (k + 1)).map cut) := Lib.hid (by
              rw [List.map_append, HMap.out, List.take_succ_eq_append_getElem hkp, List.map_append, hp]
              simp only [List.map_cons, List.map_nil, cut]
              rw [HYN.out, ← HMM.out])
            have HEls2 : Hid (∀ q, q ∈ L ++ [p] → slR 7 reqR W q.1 q.2.1.1 q.2.2 ∧ ∀ c, c ∈ q.2.2 → c < xb) := Lib.hid (fun q hq => by
              rcases List.mem_append.1 hq with hq | hq
              · exact HEls.out q hq
              · rw [List.mem_singleton] at hq
                subst hq
                rw [hp]
                exact ⟨⟨_, rfl, h6⟩, fun c hc => HF5.out c (hf6 c hc)⟩)
            have hL2 : L.length ≤ 2000000 := by omega
            replace xc0 := keep_cell hI xc0
            replace xc1 := keep_cell hI xc1
            replace xc := keep_cell hI xc
            have HXF : Hid (∀ o, w'.frozen? ⟨xb, o, none⟩ = false) := Lib.hid (fun o => keep_free hI hxbr (xf o))
            have HCh2 := Lib.hid (HCh.out.trans' (hI.chg [xb]))
            clear hR hst e1 e7 hI c7 hp h6 hf6 xf HY HMap HEls y0 pc2
            refine wpList_appendB (K := 1) (c := trC) (l := L) (news := [p]) (base := W.heap.size) rfl _ _ 36 41 i2 (.slice none 0 0) 24 trC_len rfl Try.underlying36 pi pz0 pz1 pz2 rfl (by decide) (by decide) rfl rfl HOw.out rfl (by decide) hnews hone hL2 (by decide) hbase ?_
            intro v' w8 hown' hgr hblk
            obtain ⟨va', vn', vc', rfl, -⟩ := hown'.slice
            have hb8 := grown_below HOw.out hgr hbase
            have hxW : xb < W.heap.size := by omega
            replace xc0 := (hb8.cell (p := ⟨xb, 0, none⟩) hxW).trans xc0
            replace xc1 := (hb8.cell (p := ⟨xb, 1, none⟩) hxW).trans xc1
            replace xc := (hb8.cell (p := ⟨xb, 2, none⟩) hxW).trans xc
            have HXF8 : Hid (∀ o, w8.frozen? ⟨xb, o, none⟩ = false) := Lib.hid (fun o => (hb8.frozen (p := ⟨xb, o, none⟩) hxW).trans (HXF.out o))
            have f2 := HXF8.out 2
            have HO8 := Lib.hid hown'
            have HCh8 := Lib.hid (HCh2.out.low hb8)
            clear hnews hone hown' hgr hblk hb8 HOw HXF
            go_wp2
            go_roundw
            case rel => exact ⟨k + 1, _, L ++ [p], by omega, by go_num, setOther _ (by decide) xc0, setOther _ (by decide) xc1, setSame _ xc, fun o => (World.frozen?_setCell ..).trans (HXF8.out o), OwnR.chg HO8.out (store_chg _) hxW, HMap2.out, HEls2.out, HCh8.out.trans' (store_chg _)⟩
            case measure => simp [intOf]; omega
        · have hk3 : k = 3 := by omega
          have HTake : Hid (x.progs.take k = x.progs) := Lib.hid (List.take_of_length_le (by rw [HLen.out.2]; omega))
          obtain ⟨fr, hfr, -⟩ := OwnR.reads trC_len HO.out
          have hun := SlR.untr (R := slR 7 reqR) hfr (fun p hp => (slR_fits reqR_fits).chg (HEls.out p hp).1 hch (fun c hc hm => by have := (HEls.out p hp).2 c hc; simp at hm; omega))
          rw [HMap.out, HTake.out] at hun
          have HX := Lib.hid hun
          have hSM := SlR.chg mrR_fits SM.out hch (fun c hc hm => by have := HFM.out c hc; simp at hm; omega)
          have hSL := SlR.chg intR_fits SL.out hch (fun c hc hm => by have := HFL.out c hc; simp at hm; omega)
          have hSP := SlR.chg (slR_fits reqR_fits) SP.out hch (fun c hc hm => by have := HFG.out c hc; simp at hm; omega)
          have HM9 := Lib.hid hSM
          have HL9 := Lib.hid hSL
          have HP9 := Lib.hid hSP
          obtain ⟨_, _, _, e, hnl, hcl, _, _, rl⟩ := IntS.opened hSL
          cases e
          have HLC : Hid (∀ i, i < 4 → ∃ (h : i < x.lat.length), wr.cell? ⟨lb, lo + i, none⟩ = some (.int .i64 x.lat[i])) := Lib.hid (fun i hi => by
            obtain ⟨h, b, off, e, _, _, hc⟩ := rl i hi
            cases e
            exact ⟨h, hc⟩)
          have pc0 := keep_cell_chg hch YP0.out nxb
          have pc1 := keep_cell_chg hch YP1.out nxb
          have hlc1 : ¬ lc = 1 := by omega
          obtain ⟨ld, hld⟩ : ∃ z, z = x.lat.drop 1 := ⟨_, rfl⟩
          have HLd := Lib.hid hld
          clear hld
          have BW := Lib.hid (B1.out.trans (hch.under B1.out.size (fun q hq => by simp at hq; omega)))
          clear hfr hun hSM hSL hSP rl hch HO HMap HEls HO0
          go_wp2_with fail
          have hst : ∀ F, F ∈ [FEq (.pointer (some ⟨cx, 0, none⟩)), FEq (.slice va vn vc), FOne (.int .i64 4), FEq (.pointer (some ⟨cx, 1, none⟩)), FEq (.slice (some ⟨lb, lo, none⟩) 4 lc), FEq (.slice (some ⟨lb, lo + 1, none⟩) 3 (lc - 1)), FSlR 1 intR (4 :: ld), FEq (.pointer (some ⟨cx, 2, none⟩)), FEq (.slice (some ⟨pb, po, none⟩) 3 pc), FBld (.slice va vn vc) (.slice (some ⟨pb, po, none⟩) 3 pc) (4 :: ld), FBlk3 wr.heap.size] → Stable [] F := by
            simp only [List.forall_mem_cons]
            exact ⟨stEq _ _, stEq _ _, stOne _, stEq _ _, stEq _ _, stEq _ _, stSlR intR_fits _, stEq _ _, stEq _ _, stBld _ _ _, stBlk3 _, fun _ h => by simp at h⟩
          refine wp_region_tail (by kernel_rfl) (fun i => ([[], [0], [], [], [3], [3, 4], [2, 3, 4, 5], [], [7], [0, 1, 2, 3, 4, 5, 6, 7, 8], [], [0, 1, 2, 3, 4, 5, 6, 7, 8, 9, 10]] : List (List Nat)).getD i []) (facts [FEq (.pointer (some ⟨cx, 0, none⟩)), FEq (.slice va vn vc), FOne (.int .i64 4), FEq (.pointer (some ⟨cx, 1, none⟩)), FEq (.slice (some ⟨lb, lo, none⟩) 4 lc), FEq (.slice (some ⟨lb, lo + 1, none⟩) 3 (lc - 1)), FSlR 1 intR (4 :: ld), FEq (.pointer (some ⟨cx, 2, none⟩)), FEq (.slice (some ⟨pb, po, none⟩) 3 pc), FBld (.slice va vn vc) (.slice (some ⟨pb, po, none⟩) 3 pc) (4 :: ld), FBlk3 wr.heap.size]) (fun m w' => Below wr.heap.size wr w') 70 12 11 [some 53, some 54, some 55, some 56, some 57, some 58, some 59, some 60, some 61, some 62, some 7] _ rfl rfl (by decide) rfl rfl (by kernel_rfl) (by kernel_rfl) [] (by kernel_rfl) (fun g b hm v w h => by simp at hm) ?h0 (all_lt (n := 11) ?hop) ?hend
          case h0 => exact (Below.refl _ _).drew
          case hop =>
            refine ⟨⟨⟨⟨⟨⟨⟨⟨⟨⟨⟨trivial, ?_⟩, ?_⟩, ?_⟩, ?_⟩, ?_⟩, ?_⟩, ?_⟩, ?_⟩, ?_⟩, ?_⟩, ?_⟩
            · refine Owes.mk _ rfl rfl (fun _ _ h => by cases h) fun u m w' hm hI hR => ⟨⟨#[undef, undef, undef, .pointer (some ⟨cx, 0, none⟩), undef, undef, undef, undef, undef, undef, undef, undef, undef, undef, undef, undef, undef, undef, undef, undef, undef, undef, undef, undef, undef, undef, undef, undef, undef, undef, undef, undef, undef, undef, undef, undef, undef, undef, undef, undef, undef, undef, undef, undef, undef, undef, undef, undef, undef, undef, undef, undef, undef, undef, undef, undef, undef, undef, undef, undef, undef, undef, undef, undef, undef, undef, undef, undef, undef, undef], []⟩, rfl, fun d hd => by cases hd; exact (by decide : 53 < 70), ?_⟩
              have k0 := keep_cell hI pc0
              have k1 := keep_cell hI pc1
              have k2 := keep_cell hI pc2
              have HI := Lib.hid hI
              clear hI hst hR
              go_wp2
              exact ⟨rfl, _, rfl, rfl, HI.out, fun _ _ h => h⟩
            · refine Owes.mk _ rfl rfl (fun _ _ h => by cases h) fun u m w' hm hI hR => ⟨⟨#[undef, undef, undef, undef, undef, undef, undef, undef, undef, undef, undef, undef, undef, undef, undef, undef, undef, undef, undef, undef, undef, undef, undef, undef, undef, undef, undef, undef, undef, undef, undef, undef, undef, undef, undef, undef, undef, undef, undef, undef, undef, undef, undef, undef, undef, undef, undef, undef, undef, undef, undef, undef, undef, u 0, undef, undef, undef, undef, undef, undef, undef, undef, undef, undef, undef, undef, undef, undef, undef, undef], []⟩, rfl, fun d hd => by cases hd; exact (by decide : 54 < 70), ?_⟩
              have e0 : u 0 = _ := hR 0 (by decide)
              have k0 := keep_cell hI pc0
              have k1 := keep_cell hI pc1
              have k2 := keep_cell hI pc2
              have HI := Lib.hid hI
              clear hI hst hR
              rw [e0]
              clear e0
              go_wp2
              exact ⟨rfl, _, rfl, rfl, HI.out, fun _ _ h => h⟩
            · refine Owes.mk _ rfl rfl (fun _ _ h => by cases h) fun u m w' hm hI hR => ⟨⟨#[undef, undef, undef, undef, undef, undef, undef, undef, undef, undef, undef, undef, undef, undef, undef, undef, undef, undef, undef, undef, undef, undef, undef, undef, undef, undef, undef, undef, undef, undef, undef, undef, undef, undef, undef, undef, undef, undef, undef, undef, undef, undef, undef, undef, undef, undef, undef, undef, undef, undef, undef, undef, undef, undef, undef, undef, undef, undef, undef, undef, undef, undef, undef, undef, undef, undef, undef, undef, undef, undef], []⟩, rfl, fun d hd => by cases hd; exact (by decide : 55 < 70), ?_⟩
              have k0 := keep_cell hI pc0
              have k1 := keep_cell hI pc1
              have k2 := keep_cell hI pc2
              have ba := below_alloc w' (.cells #[.int .i64 4] 3)
              have HS8 := Lib.hid (facts_stable hst (ba.chg []))
              have HB8 := Lib.hid (hI.trans (ba.mono hI.size))
              clear hI hst hR ba
              go_wp2
              exact ⟨rfl, _, rfl, ⟨w'.heap.size, rfl, alloc_new _ _ _⟩, HB8.out, HS8.out⟩
            · refine Owes.mk _ rfl rfl (fun _ _ h => by cases h) fun u m w' hm hI hR => ⟨⟨#[undef, undef, undef, .pointer (some ⟨cx, 0, none⟩), undef, undef, undef, undef, undef, undef, undef, undef, undef, undef, undef, undef, undef, undef, undef, undef, undef, undef, undef, undef, undef, undef, undef, undef, undef, undef, undef, undef, undef, undef, undef, undef, undef, undef, undef, undef, undef, undef, undef, undef, undef, undef, undef, undef, undef, undef, undef, undef, undef, undef, undef, undef, undef, undef, undef, undef, undef, undef, undef, undef, undef, undef, undef, undef, undef, undef], []⟩, rfl, fun d hd => by cases hd; exact (by decide : 56 < 70), ?_⟩
              have k0 := keep_cell hI pc0
              have k1 := keep_cell hI pc1
              have k2 := keep_cell hI pc2
              have HI := Lib.hid hI
              clear hI hst hR
              go_wp2
              exact ⟨rfl, _, rfl, rfl, HI.out, fun _ _ h => h⟩
            · refine Owes.mk _ rfl rfl (fun _ _ h => by cases h) fun u m w' hm hI hR => ⟨⟨#[undef, undef, undef, undef, undef, undef, undef, undef, undef, undef, undef, undef, undef, undef, undef, undef, undef, undef, undef, undef, undef, undef, undef, undef, undef, undef, undef, undef, undef, undef, undef, undef, undef, undef, undef, undef, undef, undef, undef, undef, undef, undef, undef, undef, undef, undef, undef, undef, undef, undef, undef, undef, undef, undef, undef, undef, u 3, undef, undef, undef, undef, undef, undef, undef, undef, undef, undef, undef, undef, undef], []⟩, rfl, fun d hd => by cases hd; exact (by decide : 57 < 70), ?_⟩
              have e3 : u 3 = _ := hR 3 (by decide)
              have k0 := keep_cell hI pc0
              have k1 := keep_cell hI pc1
              have k2 := keep_cell hI pc2
              have HI := Lib.hid hI
              clear hI hst hR
              rw [e3]
              clear e3
              go_wp2
              exact ⟨rfl, _, rfl, rfl, HI.out, fun _ _ h => h⟩
            · refine Owes.mk _ rfl rfl (fun _ _ h => by cases h) fun u m w' hm hI hR => ⟨⟨#[undef, undef, undef, undef, undef, undef, undef, undef, undef, undef, undef, undef, undef, undef, undef, undef, undef, undef, undef, undef, undef, undef, undef, undef, undef, undef, undef, undef, undef, undef, undef, undef, undef, undef, undef, undef, undef, undef, undef, undef, undef, undef, undef, undef, undef, undef, undef, undef, undef, undef, undef, undef, undef, undef, undef, undef, undef, u 4, undef, undef, undef, undef, undef, undef, undef, undef, undef, undef, undef, undef], []⟩, rfl, fun d hd => by cases hd; exact (by decide : 58 < 70), ?_⟩
              have e4 : u 4 = _ := hR 4 (by decide)
              have k0 := keep_cell hI pc0
              have k1 := keep_cell hI pc1
              have k2 := keep_cell hI pc2
              have HI := Lib.hid hI
              clear hI hst hR
              rw [e4]
              clear e4
              go_wp2
              exact ⟨rfl, _, rfl, rfl, HI.out, fun _ _ h => h⟩
            · refine Owes.mk _ rfl rfl (fun _ _ h => by cases h) fun u m w' hm hI hR => ⟨⟨#[undef, undef, undef, undef, undef, undef, undef, undef, undef, undef, undef, undef, undef, undef, undef, undef, undef, undef, undef, undef, undef, undef, undef, undef, undef, undef, undef, undef, undef, undef, undef, undef, undef, undef, undef, undef, undef, undef, undef, undef, undef, undef, undef, undef, undef, undef, undef, undef, undef, undef, undef, undef, undef, undef, undef, u 2, undef, undef, u 5, undef, undef, undef, undef, undef, undef, undef, undef, undef, undef, undef], []⟩, rfl, fun d hd => by cases hd; exact (by decide : 59 < 70), ?_⟩
              have e5 : u 5 = _ := hR 5 (by decide)
              have k0 := keep_cell hI pc0
              have k1 := keep_cell hI pc1
              have k2 := keep_cell hI pc2
              rw [e5]
              clear e5
              obtain ⟨b2, e2, c2⟩ := hR 2 (by decide)
              rw [e2]
              have hd3 : ld.length = 3 := by rw [HLd.out, List.length_drop, HLen.out.1]
              refine wpList_append_grows w' rfl _ _ 24 rfl 3 i1 (.int .i64 0) 1 8 Try.underlying24 li lz0 lz1 lz2 rfl (by decide) (some ⟨b2, 0, none⟩) 1 1 [.int .i64 4] rfl (fun h => by cases h) rfl (fun b hb j z hj => by cases hb; have hj0 : j = 0 := (by have := (List.getElem?_eq_some_iff.1 hj).1; simpa using this); subst hj0; simp at hj; subst hj; exact c2) ⟨lb, lo + 1, none⟩ 3 (lc - 1) (ld.map (Value.int .i64)) rfl (by rw [List.length_map, hd3]) (fun j z hj => ?_) (fun z hz => by obtain ⟨q, _, rfl⟩ := List.mem_map.1 hz; rfl) (by decide) (by decide) (by decide) ?_
              · rw [List.getElem?_map, HLd.out, List.getElem?_drop] at hj
                have hj3 : j < 3 := by
                  rcases Nat.lt_or_ge j 3 with h | h
                  · exact h
                  · rw [List.getElem?_eq_none (by rw [HLen.out.1]; omega)] at hj; cases hj
                obtain ⟨hq, hc⟩ := HLC.out (1 + j) (by omega)
                rw [List.getElem?_eq_getElem hq] at hj
                simp only [Option.map_some, Option.some.injEq] at hj
                rw [← hj, add_plain, show lo + 1 + j = lo + (1 + j) by omega]
                exact keep_cell hI hc
              · intro v' w8 hown hgr
                have hb8 := below_of_grown hgr
                obtain ⟨f8, s8, -⟩ := IntS.of_owns (l := 4 :: ld) hown
                have HX8 := Lib.hid s8
                have HS8 := Lib.hid (facts_stable hst (hb8.chg []))
                have HB8 := Lib.hid (hI.trans (hb8.mono hI.size))
                clear hI hst hR hown hgr hb8 s8
                go_wp2
                exact ⟨rfl, _, rfl, ⟨f8, HX8.out⟩, HB8.out, HS8.out⟩
            · refine Owes.mk _ rfl rfl (fun _ _ h => by cases h) fun u m w' hm hI hR => ⟨⟨#[undef, undef, undef, .pointer (some ⟨cx, 0, none⟩), undef, undef, undef, undef, undef, undef, undef, undef, undef, undef, undef, undef, undef, undef, undef, undef, undef, undef, undef, undef, undef, undef, undef, undef, undef, undef, undef, undef, undef, undef, undef, undef, undef, undef, undef, undef, undef, undef, undef, undef, undef, undef, undef, undef, undef, undef, undef, undef, undef, undef, undef, undef, undef, undef, undef, undef, undef, undef, undef, undef, undef, undef, undef, undef, undef, undef], []⟩, rfl, fun d hd => by cases hd; exact (by decide : 60 < 70), ?_⟩
              have k0 := keep_cell hI pc0
              have k1 := keep_cell hI pc1
              have k2 := keep_cell hI pc2
              have HI := Lib.hid hI
              clear hI hst hR
              go_wp2
              exact ⟨rfl, _, rfl, rfl, HI.out, fun _ _ h => h⟩
            · refine Owes.mk _ rfl rfl (fun _ _ h => by cases h) fun u m w' hm hI hR => ⟨⟨#[undef, undef, undef, undef, undef, undef, undef, undef, undef, undef, undef, undef, undef, undef, undef, undef, undef, undef, undef, undef, undef, undef, undef, undef, undef, undef, undef, undef, undef, undef, undef, undef, undef, undef, undef, undef, undef, undef, undef, undef, undef, undef, undef, undef, undef, undef, undef, undef, undef, undef, undef, undef, undef, undef, undef, undef, undef, undef, undef, undef, u 7, undef, undef, undef, undef, undef, undef, undef, undef, undef], []⟩, rfl, fun d hd => by cases hd; exact (by decide : 61 < 70), ?_⟩
              have e7 : u 7 = _ := hR 7 (by decide)
              have k0 := keep_cell hI pc0
              have k1 := keep_cell hI pc1
              have k2 := keep_cell hI pc2
              have HI := Lib.hid hI
              clear hI hst hR
              rw [e7]
              clear e7
              go_wp2
              exact ⟨rfl, _, rfl, rfl, HI.out, fun _ _ h => h⟩
            · refine Owes.mk _ rfl rfl (fun _ _ h => by cases h) fun u m w' hm hI hR => ⟨⟨#[undef, undef, undef, undef, undef, undef, undef, undef, undef, undef, undef, undef, undef, undef, undef, undef, undef, undef, undef, undef, undef, undef, undef, undef, undef, undef, undef, undef, undef, undef, undef, undef, undef, undef, undef, undef, undef, undef, undef, undef, undef, undef, undef, undef, undef, undef, undef, undef, undef, undef, undef, undef, undef, undef, u 1, undef, undef, undef, undef, u 6, undef, u 8, undef, undef, undef, undef, undef, undef, undef, undef], []⟩, rfl, fun d hd => by cases hd; exact (by decide : 62 < 70), ?_⟩
              have e1 : u 1 = _ := hR 1 (by decide)
              have e8 : u 8 = _ := hR 8 (by decide)
              have k0 := keep_cell hI pc0
              have k1 := keep_cell hI pc1
              have k2 := keep_cell hI pc2
              rw [e1, e8]
              clear e1 e8
              obtain ⟨f6, s6⟩ := hR 6 (by decide)
              obtain ⟨a6, n6, c6, e6⟩ := s6.form
              rw [e6] at s6
              rw [e6]
              have HI := Lib.hid hI
              have HS6 := Lib.hid s6
              clear hI hst hR e6 s6
              go_wp2
              exact ⟨rfl, _, rfl, ⟨a6, n6, c6, f6, rfl, HS6.out⟩, HI.out, fun _ _ h => h⟩
            · refine Owes.mk _ rfl rfl (fun _ _ h => by cases h) fun u m w' hm hI hR => ⟨⟨#[undef, undef, undef, undef, undef, undef, undef, undef, undef, undef, undef, undef, undef, undef, undef, undef, undef, undef, undef, undef, undef, undef, undef, undef, undef, undef, undef, undef, undef, undef, undef, undef, undef, undef, undef, undef, undef, undef, undef, undef, undef, undef, undef, undef, undef, undef, undef, undef, undef, undef, undef, undef, undef, undef, undef, undef, undef, undef, undef, undef, undef, undef, undef, undef, undef, undef, undef, undef, undef, undef], []⟩, rfl, fun d hd => by cases hd; exact (by decide : 7 < 70), ?_⟩
              have k0 := keep_cell hI pc0
              have k1 := keep_cell hI pc1
              have k2 := keep_cell hI pc2
              have ba := below_alloc w' (.cells #[.slice none 0 0, .slice none 0 0, .slice none 0 0] 38)
              have HS8 := Lib.hid (facts_stable hst (ba.chg []))
              have HB8 := Lib.hid (hI.trans (ba.mono hI.size))
              have HZ := Lib.hid hI.size
              clear hI hst hR ba
              go_wp2
              exact ⟨rfl, _, rfl, ⟨w'.heap.size, rfl, HZ.out, alloc1_new _ _ _ 0 rfl, alloc1_new _ _ _ 1 rfl, alloc1_new _ _ _ 2 rfl, fun o => alloc1_free _ _ _ _, noInt3 _ _⟩, HB8.out, HS8.out⟩
          case hend =>
            intro u w' hI hR
            simp only [setAll, List.set_cons_zero, List.set_cons_succ]
            obtain ⟨a6, n6, c6, f6, e9, s6⟩ := hR 9 (by decide)
            obtain ⟨q, e10, hq, z0, z1, z2, zf, hni⟩ := hR 10 (by decide)
            rw [e9, e10]
            obtain ⟨W9, hW9⟩ : ∃ z, z = (((w'.setCell ⟨q, 0, none⟩ (.slice va vn vc)).setCell ⟨q, 1, none⟩ (.slice a6 n6 c6)).setCell ⟨q, 2, none⟩ (.slice (some ⟨pb, po, none⟩) 3 pc)) := ⟨_, rfl⟩
            have hc9 : Chg [q] w' W9 := by rw [hW9]; exact (store_chg _).trans' ((store_chg _).trans' (store_chg _))
            have y0 : W9.cell? ⟨q, 0, none⟩ = some (.slice va vn vc) := by rw [hW9]; exact put3_0 _ _ _ z0
            have y1 : W9.cell? ⟨q, 1, none⟩ = some (.slice a6 n6 c6) := by rw [hW9]; exact put3_1 _ _ _ z1
            have y2 : W9.cell? ⟨q, 2, none⟩ = some (.slice (some ⟨pb, po, none⟩) 3 pc) := by rw [hW9]; exact put3_2 _ _ _ z2
            have hxr : xb < wr.heap.size := block_of_cell xc0
            have hxq : xb ∉ [q] := by simp; omega
            replace xc0 := keep_cell_chg hc9 (keep_cell hI xc0) hxq
            replace xc1 := keep_cell_chg hc9 (keep_cell hI xc1) hxq
            replace xc := keep_cell_chg hc9 (keep_cell hI xc) hxq
            have HM9' := Lib.hid (SlR.chg mrR_fits (SlR.below mrR_fits HM9.out hI) hc9 (fun c hc hm => by have := HFM.out c hc; simp at hm; omega))
            have HL9' := Lib.hid (SlR.chg intR_fits (SlR.below intR_fits HL9.out hI) hc9 (fun c hc hm => by have := HFL.out c hc; simp at hm; omega))
            have HP9' := Lib.hid (SlR.chg (slR_fits reqR_fits) (SlR.below (slR_fits reqR_fits) HP9.out hI) hc9 (fun c hc hm => by have := HFG.out c hc; simp at hm; omega))
            have HX' := Lib.hid (SlR.chg (slR_fits reqR_fits) (SlR.below (slR_fits reqR_fits) HX.out hI) hc9 (fun c hc hm => by have := SlR.lt (slR_fits reqR_fits) HX.out c hc; simp at hm; omega))
            obtain ⟨f7, s7⟩ := SlR.noInt_chg s6 hni hc9
            have HS6 := Lib.hid s7
            have f0 := zf 0
            have f1 := zf 1
            have f2 := zf 2
            replace BW := Lib.hid ((((BW.out.trans (hI.mono BW.out.size)).chg []).trans hc9).home (fun b hb => by simp at hb; have := BW.out.size; omega))
            clear hR hst hI e9 e10 s6 s7 hni zf hc9 pc0 pc1 pc2 HM9 HL9 HP9 HX
            go_upto_region 15 with fail
            rw [← hW9]
            clear hW9 z0 z1 z2 f0 f1 f2
            go_wp2_with fail
            refine (iBusOk_any ⟨x.map, x.lat, x.progs.map cut⟩ _ _ _ fm fl _ _ HM9'.out HL9'.out HX'.out).mono ?_
            rw [cuts_ok HBB.out.symm]
            rintro e w10 ⟨rfl, b10⟩
            replace y0 := keep_cell b10 y0
            replace y1 := keep_cell b10 y1
            replace y2 := keep_cell b10 y2
            have HM8 := Lib.hid (SlR.below mrR_fits HM9'.out b10)
            have HP8 := Lib.hid (SlR.below (slR_fits reqR_fits) HP9'.out b10)
            replace HS6 := Lib.hid (SlR.below intR_fits HS6.out b10)
            replace BW := Lib.hid (BW.out.trans (b10.mono BW.out.size))
            clear b10
            go_wp2_with fail
            refine (iBusOk_any ⟨x.map, 4 :: ld, x.progs⟩ _ _ _ fm f7 fg _ HM8.out HS6.out HP8.out).mono ?_
            rw [slow_bad]
            rintro e w11 ⟨rfl, b11⟩
            replace BW := Lib.hid (BW.out.trans (b11.mono BW.out.size))
            clear b11
            go_wp2
            go_ret
            exact ⟨rfl, BW.out⟩

set_option maxRecDepth 100000 in
theorem lifted (os : Os) (started : os.Started) (H : Type) (enc : TypeId × Value → H) :
    ReturnsInHanded {} Try.checked os 4 .any (Rows.fnBusOkSpec.pre6 enc Try.prog Try.f4 Rows.fnBusOkRow.domain false) (Rows.fnBusOkSpec.post enc Try.prog Try.f4 false true false false) := by
  refine returnsInHanded_of_change (C := Try.checked) own started (by kernel_rfl) Try.func4
    (ChangeSpec.witness6 (enc := enc) (C := Try.checked) false ⟨#[], #[.slice none 0 0], []⟩ 8 (by kernel_rfl) (by kernel_rfl) (by kernel_rfl) (by kernel_rfl)) ?_
  intro W base args ds gs before hval0 hW hcnd _
  have hval : ∀ (j : Nat) t v, Try.f4.params[j]? = some t → args[j]? = some v → Value.okWide Try.prog W .any base t v := hval0
  have hW' := hW
  obtain ⟨p, q, hA0, hV, rfl, hfz, hnd⟩ := hW
  have hA : DataW.TrodAll enc Try.prog W 0 (fun _ => true) true Try.f4.params.toList args.toList ds p := hA0
  rw [Try.params4] at hA hval
  obtain ⟨v0, vs0, d0, ds0, p0, q0, hargs, rfl, rfl, h0, r0⟩ := trodAll_cons hA
  obtain ⟨rfl, rfl, rfl⟩ := trodAll_nil r0
  obtain rfl : args = #[v0] := by cases args; simp_all
  obtain ⟨rfl, rfl⟩ := trodVars_none hV
  clear hA0 hval0
  simp only [List.append_nil] at hW'
  have hlt0 : ∀ x ∈ p0, x.block < W.heap.size := fun x hx => by simpa using hW'.lt x (by simp [hx])
  have hk0 := h0
  obtain ⟨ad0, len0, cap0, rfl⟩ := okWide_slice Try.underlying22 (hval 0 22 v0 rfl rfl)
  obtain ⟨fuel0, hf0⟩ := h0
  obtain ⟨x0, fp0, y0, e0, g0⟩ := (opens_slice Try.underlying22 (by kernel_rfl) (by decide) (opens_byte Try.underlying5) byteR_fits) hf0
  obtain rfl : .slice ad0 len0 cap0 = y0 := by simpa [Value.cells] using e0
  refine (walk (.slice ad0 len0 cap0) x0 fp0 W g0).mono fun e W' ⟨he, hb⟩ => ?_
  subst he
  exact ⟨_, rfl, _, _, _, [], _, [], hW', (trodAll_cons_mk (shut_bool Try.underlying4 _) trodAll_mk0), (trodAll_cons_mk (Below.trod laidOut (by kernel_rfl) (of_decide_eq_true (by kernel_rfl)) hk0 hb hlt0) trodAll_mk0), rfl, hb.frame _, fun h => by cases h⟩

theorem over : Rows.fnBusOkRow.holds Try.pinned (OpenSpec.ofChange Rows.fnBusOkSpec) :=
  OpenClaim.holds_of_wide 4 Try.f4 rfl rfl rfl rfl rfl rfl rfl ⟨rfl, rfl, rfl, rfl, rfl⟩ rfl rfl rfl rfl rfl (by kernel_rfl) Try.func4 (by kernel_rfl)
    (of_decide_eq_true (by kernel_rfl)) (by unfold Func.isWrapper; first | (rw [if_pos (by decide +kernel)]; kernel_rfl) | (rw [if_neg (by decide +kernel)]; exact ⟨rfl, rfl⟩))
    (fun os started H enc _ => lifted os started H enc)

theorem proved : Rows.FnBusOkSaid :=
  over
#print axioms proved
end Go.Proofs.Ytmcjklicepaiaaa.fnBusOk
