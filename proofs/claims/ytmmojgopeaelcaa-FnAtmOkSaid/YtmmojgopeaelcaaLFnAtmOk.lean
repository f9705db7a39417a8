/-
  Proved: the Go function laws.FnAtmOk returns true for every code, and the code reads afterwards as before: a store and what is held are ok apart.
  Conditions: none.
-/
import Derived.Test.YtmmojgopeaelcaaLift
import Derived.Test.YtmmojgopeaelcaaDAtm
import Derived.Test.YtmmojgopeaelcaaAtmOk
import Derived.Test.YtmmojgopeaelcaaAtmNew
import Derived.Test.YtmmojgopeaelcaaOwn2
import Derived.Test.YtmmojgopeaelcaaCr
import Derived.Test.YtmmojgopeaelcaaFacts
import Derived.Test.YtmmojgopeaelcaaRegion3
namespace Go.Proofs.Ytmmojgopeaelcaa.fnAtmOk
set_option linter.unusedVariables false
set_option linter.unusedSimpArgs false
open Go.ChangeShapes Go.WideShapes Go.ChangeAt Go.RowKit

set_option maxRecDepth 100000 in
theorem drawAtmOk_any (v : Value) (l : List Int) (fp : List Nat) (w : World) (g : ByteS w l v fp) :
    Calls Try.prog 57 #[v] w fun e w' => ∃ (m h : List Int) (v0 v1 : Value) (f0 f1 : List Nat), e = .returned (.agg #[v0, v1]) ∧ SlR 1 intR w' m v0 f0 ∧ SlR 1 intR w' h v1 f1 ∧ m.length ≤ 65 ∧ h.length ≤ 6 ∧ Below w.heap.size w w' := by
  have hb := below_alloc w (.cells #[.slice none 0 0, .slice none 0 0] 67)
  have G := Lib.hid (SlR.below byteR_fits g hb)
  have B := Lib.hid hb
  clear g hb
  go_enter Try.func57, Try.ntmps57
  go_wp2_with fail
  refine (l20Open_any v l fp _ G.out).mono ?_
  rintro e w1 ⟨rb, fq, rfl, hrb, hfq, h0, b0⟩
  have m0 := keep_cell b0 (alloc1_new w _ _ 0 rfl)
  have m1 := keep_cell b0 (alloc1_new w _ _ 1 rfl)
  have g0 := keep_free b0 (by simp) (alloc1_free w _ _ 0)
  have g1 := keep_free b0 (by simp) (alloc1_free w _ _ 1)
  have H0 := Lib.hid h0
  have B0 := Lib.hid (B.out.trans (b0.mono B.out.size))
  have hrb' : w.heap.size < rb := by simp at hrb; omega
  have hz1 : w.heap.size < w1.heap.size := by have := b0.size; simp at this; omega
  have nr : w.heap.size ∉ [rb] := by simp; omega
  have fl : ∀ b, b ∈ fq → b < w1.heap.size := fun b hb => by have := hfq b hb; have := b0.size; omega
  have FL := Lib.hid fl
  clear h0 b0 fl
  go_wp2_with fail
  refine (l20Atm_any rb fq 0 2 (by omega) (by omega) (by omega) _ H0.out FL.out).mono ?_
  rintro e w2 ⟨m, h, v0, v1, f0, f1, rfl, s0, s1, hm, hh, hfd, h2, c2⟩
  replace m0 := keep_cell_chg c2 m0 nr
  replace m1 := keep_cell_chg c2 m1 nr
  replace g0 := (World.frozen?_of_block (c2.block w.heap.size hz1 nr)).trans g0
  replace g1 := (World.frozen?_of_block (c2.block w.heap.size hz1 nr)).trans g1
  have S0 := Lib.hid s0
  have S1 := Lib.hid s1
  have HM := Lib.hid hm
  have HH := Lib.hid hh
  have HFD := Lib.hid hfd
  have HB := Lib.hid (((B0.out.chg [rb]).trans' c2).home (fun b hb => by simp at hb; omega))
  obtain ⟨a0, n0, k0, rfl⟩ := s0.form
  obtain ⟨a1, n1, k1, rfl⟩ := s1.form
  clear s0 s1 h2 c2 hm hh hfd
  go_wp2
  have hc3 : Chg [w.heap.size] w2 ((w2.setCell ⟨w.heap.size, 0, none⟩ (.slice a0 n0 k0)).setCell ⟨w.heap.size, 1, none⟩ (.slice a1 n1 k1)) := (store_chg _).trans' (store_chg _)
  have M0' : ((w2.setCell ⟨w.heap.size, 0, none⟩ (.slice a0 n0 k0)).setCell ⟨w.heap.size, 1, none⟩ (.slice a1 n1 k1)).cell? ⟨w.heap.size, 0, none⟩ = some (.slice a0 n0 k0) := setOther _ (by decide) (setSame _ m0)
  have M1' : ((w2.setCell ⟨w.heap.size, 0, none⟩ (.slice a0 n0 k0)).setCell ⟨w.heap.size, 1, none⟩ (.slice a1 n1 k1)).cell? ⟨w.heap.size, 1, none⟩ = some (.slice a1 n1 k1) := setSame _ (setOther _ (by decide) m1)
  refine bodyPost_ret (v := .agg #[.slice a0 n0 k0, .slice a1 n1 k1]) (by simp [results, Try.results57, go_sem, M0', M1']) rfl ?_
  exact ⟨m, h, _, _, f0, f1, rfl, S0.out.chg intR_fits hc3 (fun b hb hb' => by have := HFD.out b (by simp [hb]); simp at hb'; omega), S1.out.chg intR_fits hc3 (fun b hb hb' => by have := HFD.out b (by simp [hb]); simp at hb'; omega), HM.out, HH.out, ((HB.out.chg []).trans hc3).home (fun b hb => by simp at hb; omega)⟩

theorem ok_len {x : Atm} (h : atmOk x = true) : x.holds.length = 6 := by
  unfold atmOk at h
  simp only [Bool.and_eq_true, decide_eq_true_eq] at h
  exact h.2.1
theorem bad0 (m h : List Int) : atmOk ⟨m, 64 :: h⟩ = false := by
  have : allIn (64 :: h) (-1) 63 = false := allIn_no (k := 0) (by simp) (by simp [inB])
  simp [atmOk, this]
theorem bad1 {m h : List Int} (hl : h.length = 6) : atmOk ⟨m, -1 :: h⟩ = false := by simp [atmOk, hl]
theorem fine {m h : List Int} (hk : atmOk ⟨m, h⟩ = true) : atmOk ⟨m, atmNew.holds⟩ = true := by
  unfold atmOk at *
  simp only [Bool.and_eq_true] at *
  exact ⟨hk.1, (by show decide (atmNew.holds.length = 6) = true; decide), (by show allIn atmNew.holds (-1) 63 = true; decide)⟩

def FOne (x : Int) : Fact := fun v w => ∃ gq : Nat, v = .slice (some ⟨gq, 0, none⟩) 1 1 ∧ w.cell? ⟨gq, 0, none⟩ = some (.int .i64 x)
theorem stOne (x : Int) : Stable [] (FOne x) := fun _ _ _ ⟨gq, e, h⟩ hc => ⟨gq, e, keep_cell_chg hc h (by simp)⟩
def FNew : Fact := fun v w => ∃ v0 v1 f, v = .agg #[v0, v1] ∧ SlR 1 intR w atmNew.holds v1 f
theorem stNew : Stable [] FNew := fun _ _ _ ⟨v0, v1, f, e, h⟩ hc => ⟨v0, v1, f, e, h.chg intR_fits hc (fun _ _ => by simp)⟩

def NoInt (w : World) (q : Nat) : Prop := ∀ i x, w.cell? ⟨q, i, none⟩ ≠ some (.int .i64 x)
theorem int_off {w : World} {l : List Int} {v : Value} {fp : List Nat} {q : Nat} (h : SlR 1 intR w l v fp) (hl : 0 < l.length) (hq : NoInt w q) : q ∉ fp := by
  obtain ⟨a, n, cap, rfl, hn, hcap, hcm, ⟨rfl, rfl⟩ | ⟨b, off, fps, rfl, hb, rfl, hf, hc⟩⟩ := h
  · simp at hl
  · intro hm
    rcases List.mem_cons.1 hm with rfl | hm
    · obtain ⟨cs, ⟨rfl, _⟩, h1⟩ := hc 0 hl (by omega)
      exact hq _ _ (h1 0 (by simp))
    · obtain ⟨f, hf1, hf2⟩ := List.mem_flatten.1 hm
      obtain ⟨i, hi, rfl⟩ := List.mem_iff_getElem.1 hf1
      obtain ⟨cs, ⟨_, h0⟩, _⟩ := hc i (by omega) hi
      rw [h0] at hf2
      simp at hf2
theorem noInt_alloc (w : World) (a n c : _) (a' n' c' : _) (T : TypeId) : NoInt (w.alloc (.cells #[.slice a n c, .slice a' n' c'] T)) w.heap.size := by
  intro i x h
  rw [World.cell?_alloc_at _ _ _ _ rfl] at h
  match i, h with
  | 0, h => cases h
  | 1, h => cases h
  | i + 2, h => simp at h
def FBlk2 (n : Nat) (x0 x1 : Value) : Fact := fun v w => ∃ q : Nat, v = .pointer (some ⟨q, 0, none⟩) ∧ n ≤ q ∧ q < w.heap.size ∧ w.cell? ⟨q, 0, none⟩ = some x0 ∧ w.cell? ⟨q, 1, none⟩ = some x1 ∧ w.frozen? ⟨q, 0, none⟩ = false ∧ w.frozen? ⟨q, 1, none⟩ = false ∧ NoInt w q
theorem stBlk2 (n : Nat) (x0 x1 : Value) : Stable [] (FBlk2 n x0 x1) := fun _ _ _ ⟨q, e, h1, h2, h3, h4, h5, h6, h7⟩ hc => ⟨q, e, h1, Nat.lt_of_lt_of_le h2 hc.size, keep_cell_chg hc h3 (by simp), keep_cell_chg hc h4 (by simp), (World.frozen?_of_block (hc.block q h2 (by simp))).trans h5, (World.frozen?_of_block (hc.block q h2 (by simp))).trans h6, fun i x h => h7 i x ((World.cell?_of_block (hc.block q h2 (by simp))).symm.trans h)⟩
def FAg (x : Value) (l : List Int) : Fact := fun v w => ∃ a n k f, v = .agg #[x, .slice a n k] ∧ SlR 1 intR w l (.slice a n k) f
theorem stAg (x : Value) (l : List Int) : Stable [] (FAg x l) := fun _ _ _ ⟨a, n, k, f, e, h⟩ hc => ⟨a, n, k, f, e, h.chg intR_fits hc (fun _ _ => by simp)⟩

set_option maxRecDepth 100000 in
set_option maxHeartbeats 6400000 in
theorem walk (v : Value) (l0 : List Int) (fp0 : List Nat) (w : World) (g : ByteS w l0 v fp0) :
    Calls Try.prog 12 #[v] w fun e w' => e = .returned (.bool true) ∧ Below w.heap.size w w' := by
  obtain ⟨a0, n0, c0, rfl, hn0, hcap0, hmax0, hcm0, _⟩ := g.opened
  obtain ⟨i0, ki, kz0, kz1, kz2⟩ := info_parts infoInt
  have G := Lib.hid g
  clear g
  by_cases hb : 1048576 < n0
  · go_enter Try.func12, Try.ntmps12
    go_wp2
    go_ret
    exact ⟨rfl, Below.refl _ _⟩
  · go_enter Try.func12, Try.ntmps12
    go_wp2_with fail
    refine (drawAtmOk_any _ l0 fp0 w G.out).mono ?_
    rintro e w1 ⟨m, h, v0, v1, f0, f1, rfl, s0, s1, _, _, b1⟩
    obtain ⟨am, nm, cm, rfl⟩ := s0.form
    obtain ⟨a1, n1, c1, rfl, hn1, hcap1, _, _, _⟩ := s1.opened
    have ba := below_alloc w1 (.cells #[.slice am nm cm, .slice a1 n1 c1] 67)
    have S0 := Lib.hid (SlR.below intR_fits s0 ba)
    have S1 := Lib.hid (SlR.below intR_fits s1 ba)
    have B1 := Lib.hid (b1.trans (ba.mono b1.size))
    clear s0 s1 b1 ba
    go_wp2_with fail
    refine (iAtmOk_any ⟨m, h⟩ _ _ f0 f1 _ S0.out S1.out).mono ?_
    obtain ⟨b, hbb⟩ : ∃ b, b = atmOk ⟨m, h⟩ := ⟨_, rfl⟩
    rw [← hbb]
    have HBB := Lib.hid hbb
    clear hbb
    rintro e w2 ⟨rfl, b2⟩
    have P0 := keep_cell b2 (alloc1_new w1 _ _ 0 rfl)
    have P1 := keep_cell b2 (alloc1_new w1 _ _ 1 rfl)
    replace S0 := Lib.hid (SlR.below intR_fits S0.out b2)
    replace S1 := Lib.hid (SlR.below intR_fits S1.out b2)
    replace B1 := Lib.hid (B1.out.trans (b2.mono B1.out.size))
    clear b2
    go_wp2_with fail
    refine (sAtmOk_any ⟨m, h⟩ _ _ f0 f1 _ S0.out S1.out).mono ?_
    rw [← HBB.out]
    rintro e w3 ⟨rfl, b2⟩
    replace P0 := keep_cell b2 P0
    replace P1 := keep_cell b2 P1
    replace S0 := Lib.hid (SlR.below intR_fits S0.out b2)
    replace S1 := Lib.hid (SlR.below intR_fits S1.out b2)
    replace B1 := Lib.hid (B1.out.trans (b2.mono B1.out.size))
    clear b2
    have hbb : (b != b) = false := by simp
    cases b
    · go_wp2_with fail
      refine (crOk_any _).mono ?_
      rintro e w4 ⟨rfl, rfl⟩
      go_wp2
      go_ret
      exact ⟨rfl, B1.out⟩
    · have hl : h.length = 6 := ok_len HBB.out.symm
      obtain rfl : 6 = n1 := by rw [← hn1.out]; exact hl.symm
      have L1 := Lib.hid hl
      obtain ⟨_, _, _, q1, _, _, _, _, r1⟩ := IntS.opened S1.out
      simp only [Value.slice.injEq] at q1
      obtain ⟨rfl, rfl, rfl⟩ := q1
      obtain ⟨_, b1, o1, rfl, _⟩ := r1 0 (by decide)
      obtain ⟨g1, d1, _⟩ := SlR.drop S1.out 1 (by decide)
      obtain ⟨ht, hht⟩ : ∃ t, t = h.drop 1 := ⟨_, rfl⟩
      rw [← hht] at d1
      have D1 : Hid (SlR 1 intR w3 ht (.slice (some ⟨b1, o1 + 1, none⟩) 5 (c1 - 1)) g1) := Lib.hid d1
      have LD : Hid (ht.length = 5) := Lib.hid (by rw [hht, List.length_drop, hl])
      clear hht
      have hc0 : 6 ≤ c1 := hcap1
      clear hl r1 d1
      go_wp2_with fail
      have hst : ∀ F, F ∈ [FEq (.pointer (some ⟨w1.heap.size, 0, none⟩)), FEq (.agg #[.slice am nm cm]), FOne (64), FEq (.pointer (some ⟨w1.heap.size, 1, none⟩)), FEq (.slice (some ⟨b1, o1, none⟩) 6 c1), FEq (.slice (some ⟨b1, o1 + 1, none⟩) 5 (c1 - 1)), FSlR 1 intR (64 :: ht), FAg (.slice am nm cm) (64 :: ht), FBlk2 w3.heap.size (.slice none 0 0) (.slice none 0 0)] → Stable [] F := by
        simp only [List.forall_mem_cons]
        exact ⟨stEq _ _, stEq _ _, stOne _, stEq _ _, stEq _ _, stEq _ _, stSlR intR_fits _, stAg _ _, stBlk2 _ _ _, fun _ h => by simp at h⟩
      refine wp_region_tail (by kernel_rfl) (fun i => ([[], [0], [], [], [3], [3, 4], [2, 3, 4, 5], [0, 1, 2, 3, 4, 5, 6], [], [0, 1, 2, 3, 4, 5, 6, 7, 8]] : List (List Nat)).getD i []) (facts [FEq (.pointer (some ⟨w1.heap.size, 0, none⟩)), FEq (.agg #[.slice am nm cm]), FOne (64), FEq (.pointer (some ⟨w1.heap.size, 1, none⟩)), FEq (.slice (some ⟨b1, o1, none⟩) 6 c1), FEq (.slice (some ⟨b1, o1 + 1, none⟩) 5 (c1 - 1)), FSlR 1 intR (64 :: ht), FAg (.slice am nm cm) (64 :: ht), FBlk2 w3.heap.size (.slice none 0 0) (.slice none 0 0)]) (fun m w' => Below w3.heap.size w3 w') 54 10 9 [some 22, some 23, some 24, some 25, some 26, some 27, some 28, some 29, some 5] _ rfl rfl (by decide) rfl rfl (by kernel_rfl) (by kernel_rfl) [] (by kernel_rfl) (fun g b hm v w h => by simp at hm) ?h0 (all_lt (n := 9) ?hop) ?hend
      case h0 => exact (Below.refl _ _).drew
      case hop =>
        refine ⟨⟨⟨⟨⟨⟨⟨⟨⟨trivial, ?_⟩, ?_⟩, ?_⟩, ?_⟩, ?_⟩, ?_⟩, ?_⟩, ?_⟩, ?_⟩
        · refine Owes.mk _ rfl rfl (fun _ _ h => by cases h) fun u m w' hm hI hR => ⟨⟨#[undef, undef, undef, .pointer (some ⟨w1.heap.size, 0, none⟩), undef, undef, undef, undef, undef, undef, undef, undef, undef, undef, undef, undef, undef, undef, undef, undef, undef, undef, undef, undef, undef, undef, undef, undef, undef, undef, undef, undef, undef, undef, undef, undef, undef, undef, undef, undef, undef, undef, undef, undef, undef, undef, undef, undef, undef, undef, undef, undef, undef, undef], []⟩, rfl, fun d hd => by cases hd; exact (by decide : 22 < 54), ?_⟩
          have k0 := keep_cell hI P0
          have k1 := keep_cell hI P1
          have HI := Lib.hid hI
          clear hI hst hR
          go_wp2
          exact ⟨rfl, _, rfl, rfl, HI.out, fun _ _ h => h⟩
        · refine Owes.mk _ rfl rfl (fun _ _ h => by cases h) fun u m w' hm hI hR => ⟨⟨#[undef, undef, undef, undef, undef, undef, undef, undef, undef, undef, undef, undef, undef, undef, undef, undef, undef, undef, undef, undef, undef, undef, u 0, undef, undef, undef, undef, undef, undef, undef, undef, undef, undef, undef, undef, undef, undef, undef, undef, undef, undef, undef, undef, undef, undef, undef, undef, undef, undef, undef, undef, undef, undef, undef], []⟩, rfl, fun d hd => by cases hd; exact (by decide : 23 < 54), ?_⟩
          have e0 : u 0 = _ := hR 0 (by decide)
          have k0 := keep_cell hI P0
          have k1 := keep_cell hI P1
          have HI := Lib.hid hI
          clear hI hst hR
          rw [e0]
          clear e0
          go_wp2
          exact ⟨rfl, _, rfl, rfl, HI.out, fun _ _ h => h⟩
        · refine Owes.mk _ rfl rfl (fun _ _ h => by cases h) fun u m w' hm hI hR => ⟨⟨#[undef, undef, undef, undef, undef, undef, undef, undef, undef, undef, undef, undef, undef, undef, undef, undef, undef, undef, undef, undef, undef, undef, undef, undef, undef, undef, undef, undef, undef, undef, undef, undef, undef, undef, undef, undef, undef, undef, undef, undef, undef, undef, undef, undef, undef, undef, undef, undef, undef, undef, undef, undef, undef, undef], []⟩, rfl, fun d hd => by cases hd; exact (by decide : 24 < 54), ?_⟩
          have k0 := keep_cell hI P0
          have k1 := keep_cell hI P1
          have HI := Lib.hid hI
          have HS := Lib.hid (facts_stable hst ((below_alloc w' (.cells #[.int .i64 (64)] 3)).chg []))
          clear hI hst hR
          go_wp2
          exact ⟨rfl, _, rfl, ⟨_, rfl, alloc1_new _ _ _ 0 rfl⟩, HI.out.trans ((below_alloc _ _).mono HI.out.size), HS.out⟩
        · refine Owes.mk _ rfl rfl (fun _ _ h => by cases h) fun u m w' hm hI hR => ⟨⟨#[undef, undef, undef, .pointer (some ⟨w1.heap.size, 0, none⟩), undef, undef, undef, undef, undef, undef, undef, undef, undef, undef, undef, undef, undef, undef, undef, undef, undef, undef, undef, undef, undef, undef, undef, undef, undef, undef, undef, undef, undef, undef, undef, undef, undef, undef, undef, undef, undef, undef, undef, undef, undef, undef, undef, undef, undef, undef, undef, undef, undef, undef], []⟩, rfl, fun d hd => by cases hd; exact (by decide : 25 < 54), ?_⟩
          have k0 := keep_cell hI P0
          have k1 := keep_cell hI P1
          have HI := Lib.hid hI
          clear hI hst hR
          go_wp2
          exact ⟨rfl, _, rfl, rfl, HI.out, fun _ _ h => h⟩
        · refine Owes.mk _ rfl rfl (fun _ _ h => by cases h) fun u m w' hm hI hR => ⟨⟨#[undef, undef, undef, undef, undef, undef, undef, undef, undef, undef, undef, undef, undef, undef, undef, undef, undef, undef, undef, undef, undef, undef, undef, undef, undef, u 3, undef, undef, undef, undef, undef, undef, undef, undef, undef, undef, undef, undef, undef, undef, undef, undef, undef, undef, undef, undef, undef, undef, undef, undef, undef, undef, undef, undef], []⟩, rfl, fun d hd => by cases hd; exact (by decide : 26 < 54), ?_⟩
          have e3 : u 3 = _ := hR 3 (by decide)
          have k0 := keep_cell hI P0
          have k1 := keep_cell hI P1
          have HI := Lib.hid hI
          clear hI hst hR
          rw [e3]
          clear e3
          go_wp2
          exact ⟨rfl, _, rfl, rfl, HI.out, fun _ _ h => h⟩
        · refine Owes.mk _ rfl rfl (fun _ _ h => by cases h) fun u m w' hm hI hR => ⟨⟨#[undef, undef, undef, undef, undef, undef, undef, undef, undef, undef, undef, undef, undef, undef, undef, undef, undef, undef, undef, undef, undef, undef, undef, undef, undef, undef, u 4, undef, undef, undef, undef, undef, undef, undef, undef, undef, undef, undef, undef, undef, undef, undef, undef, undef, undef, undef, undef, undef, undef, undef, undef, undef, undef, undef], []⟩, rfl, fun d hd => by cases hd; exact (by decide : 27 < 54), ?_⟩
          have e4 : u 4 = _ := hR 4 (by decide)
          have k0 := keep_cell hI P0
          have k1 := keep_cell hI P1
          have HI := Lib.hid hI
          clear hI hst hR
          rw [e4]
          clear e4
          go_wp2
          exact ⟨rfl, _, rfl, rfl, HI.out, fun _ _ h => h⟩
        · refine Owes.mk _ rfl rfl (fun _ _ h => by cases h) fun u m w' hm hI hR => ⟨⟨#[undef, undef, undef, undef, undef, undef, undef, undef, undef, undef, undef, undef, undef, undef, undef, undef, undef, undef, undef, undef, undef, undef, undef, undef, u 2, undef, undef, u 5, undef, undef, undef, undef, undef, undef, undef, undef, undef, undef, undef, undef, undef, undef, undef, undef, undef, undef, undef, undef, undef, undef, undef, undef, undef, undef], []⟩, rfl, fun d hd => by cases hd; exact (by decide : 28 < 54), ?_⟩
          have e5 : u 5 = _ := hR 5 (by decide)
          have k0 := keep_cell hI P0
          have k1 := keep_cell hI P1
          rw [e5]
          clear e5
          obtain ⟨gq, e27, c27⟩ := hR 2 (by decide)
          rw [e27]
          have HS2 := SlR.flat_cells IntC_len (by decide) (SlR.below intR_fits D1.out hI)
          refine wpList_append_full (K := 1) (c := IntC) (olds := [64]) (news := ht) (m := 5) rfl _ _ 23 3 i0 (.int .i64 0) 8 IntC_len rfl Try.underlying23 ki kz0 kz1 kz2 rfl (by decide) rfl rfl rfl (fun j u hj => by have hj0 : j = 0 := by {have := (List.getElem?_eq_some_iff.1 hj).1; simpa [IntC] using this}; subst hj0; simp [IntC] at hj; subst hj; exact c27) LD.out (by decide) HS2 (by decide) (by decide) ?_
          intro v' w7 ho b7
          obtain ⟨f7, s7, _⟩ := intRow_reads ho
          have HX := Lib.hid s7
          have HS := Lib.hid (facts_stable hst (b7.chg []))
          have HI := Lib.hid (hI.trans (b7.mono hI.size))
          clear hI b7 hst hR HS2 ho s7
          go_wp2
          exact ⟨rfl, _, rfl, ⟨_, HX.out⟩, HI.out, HS.out⟩
        · refine Owes.mk _ rfl rfl (fun _ _ h => by cases h) fun u m w' hm hI hR => ⟨⟨#[undef, undef, undef, undef, undef, undef, undef, undef, undef, undef, undef, undef, undef, undef, undef, undef, undef, undef, undef, undef, undef, undef, undef, u 1, undef, undef, undef, undef, u 6, undef, undef, undef, undef, undef, undef, undef, undef, undef, undef, undef, undef, undef, undef, undef, undef, undef, undef, undef, undef, undef, undef, undef, undef, undef], []⟩, rfl, fun d hd => by cases hd; exact (by decide : 29 < 54), ?_⟩
          have e1 : u 1 = _ := hR 1 (by decide)
          have k0 := keep_cell hI P0
          have k1 := keep_cell hI P1
          rw [e1]
          clear e1
          obtain ⟨f9, h9⟩ := hR 6 (by decide)
          obtain ⟨a9, n9, k9, e9⟩ := h9.form
          rw [e9] at h9
          rw [e9]
          have HX := Lib.hid h9
          have HI := Lib.hid hI
          clear hI hst hR h9 e9
          go_wp2
          exact ⟨rfl, _, rfl, ⟨_, _, _, _, rfl, HX.out⟩, HI.out, fun _ _ h => h⟩
        · refine Owes.mk _ rfl rfl (fun _ _ h => by cases h) fun u m w' hm hI hR => ⟨⟨#[undef, undef, undef, undef, undef, undef, undef, undef, undef, undef, undef, undef, undef, undef, undef, undef, undef, undef, undef, undef, undef, undef, undef, undef, undef, undef, undef, undef, undef, undef, undef, undef, undef, undef, undef, undef, undef, undef, undef, undef, undef, undef, undef, undef, undef, undef, undef, undef, undef, undef, undef, undef, undef, undef], []⟩, rfl, fun d hd => by cases hd; exact (by decide : 5 < 54), ?_⟩
          have k0 := keep_cell hI P0
          have k1 := keep_cell hI P1
          have HI := Lib.hid hI
          have HS := Lib.hid (facts_stable hst ((below_alloc w' (.cells #[.slice none 0 0, .slice none 0 0] 67)).chg []))
          clear hI hst hR
          go_wp2
          exact ⟨rfl, _, rfl, ⟨_, rfl, HI.out.size, by simp, alloc1_new _ _ _ 0 rfl, alloc1_new _ _ _ 1 rfl, alloc1_free _ _ _ _, alloc1_free _ _ _ _, noInt_alloc _ _ _ _ _ _ _ _⟩, HI.out.trans ((below_alloc _ _).mono HI.out.size), HS.out⟩
      case hend =>
        intro u w' hI hR
        simp only [setAll, List.set_cons_zero, List.set_cons_succ]
        have hI' := hI
        obtain ⟨aX, nX, kX, fX, eX, sX⟩ := hR 7 (by decide)
        obtain ⟨Xb, em, hb1, hb2, c0', c1', z0, z1, hno⟩ := hR 8 (by decide)
        rw [eX, em]
        have hcw : Chg [Xb] w' ((w'.setCell ⟨Xb, 0, none⟩ (.slice am nm cm)).setCell ⟨Xb, 1, none⟩ (.slice aX nX kX)) := (store_chg _).trans' (store_chg _)
        obtain ⟨Wx, hWx⟩ : ∃ W, W = (w'.setCell ⟨Xb, 0, none⟩ (.slice am nm cm)).setCell ⟨Xb, 1, none⟩ (.slice aX nX kX) := ⟨_, rfl⟩
        have X0 : Wx.cell? ⟨Xb, 0, none⟩ = some (.slice am nm cm) := by rw [hWx]; exact setOther _ (by decide) (setSame _ c0')
        have X1 : Wx.cell? ⟨Xb, 1, none⟩ = some (.slice aX nX kX) := by rw [hWx]; exact setSame _ (setOther _ (by decide) c1')
        rw [← hWx] at hcw
        have bw : Below w3.heap.size w3 Wx := ((hI'.chg []).trans hcw).home (fun b hb => by simp at hb; omega)
        have nx : Xb ∉ fX := int_off sX (by simp) hno
        have SX := Lib.hid (sX.chg intR_fits hcw (fun b hb hb' => by simp at hb'; subst hb'; exact nx hb))
        replace P0 := keep_cell bw P0
        replace P1 := keep_cell bw P1
        replace S0 := Lib.hid (SlR.below intR_fits S0.out bw)
        replace S1 := Lib.hid (SlR.below intR_fits S1.out bw)
        replace B1 := Lib.hid (B1.out.trans (bw.mono B1.out.size))
        clear hR hst hI hI' bw em eX sX hb1 hb2 hcw nx hno D1 LD
        go_wp2_with fail
        rw [← hWx]
        clear hWx c0' c1' z0 z1
        have hst : ∀ F, F ∈ [FEq (.pointer (some ⟨w1.heap.size, 0, none⟩)), FEq (.agg #[.slice am nm cm]), FOne (-1), FEq (.pointer (some ⟨w1.heap.size, 1, none⟩)), FEq (.slice (some ⟨b1, o1, none⟩) 6 c1), FSlR 1 intR (-1 :: h), FAg (.slice am nm cm) (-1 :: h), FBlk2 Wx.heap.size (.slice none 0 0) (.slice none 0 0)] → Stable [] F := by
          simp only [List.forall_mem_cons]
          exact ⟨stEq _ _, stEq _ _, stOne _, stEq _ _, stEq _ _, stSlR intR_fits _, stAg _ _, stBlk2 _ _ _, fun _ h => by simp at h⟩
        refine wp_region_tail (by kernel_rfl) (fun i => ([[], [0], [], [], [3], [2, 3, 4], [0, 1, 2, 3, 4, 5], [], [0, 1, 2, 3, 4, 5, 6, 7]] : List (List Nat)).getD i []) (facts [FEq (.pointer (some ⟨w1.heap.size, 0, none⟩)), FEq (.agg #[.slice am nm cm]), FOne (-1), FEq (.pointer (some ⟨w1.heap.size, 1, none⟩)), FEq (.slice (some ⟨b1, o1, none⟩) 6 c1), FSlR 1 intR (-1 :: h), FAg (.slice am nm cm) (-1 :: h), FBlk2 Wx.heap.size (.slice none 0 0) (.slice none 0 0)]) (fun m w' => Below Wx.heap.size Wx w') 54 9 8 [some 30, some 31, some 32, some 33, some 34, some 35, some 36, some 6] _ rfl rfl (by decide) rfl rfl (by kernel_rfl) (by kernel_rfl) [] (by kernel_rfl) (fun g b hm v w h => by simp at hm) ?h0 (all_lt (n := 8) ?hop) ?hend
        case h0 => exact (Below.refl _ _).drew
        case hop =>
          refine ⟨⟨⟨⟨⟨⟨⟨⟨trivial, ?_⟩, ?_⟩, ?_⟩, ?_⟩, ?_⟩, ?_⟩, ?_⟩, ?_⟩
          · refine Owes.mk _ rfl rfl (fun _ _ h => by cases h) fun u m w' hm hI hR => ⟨⟨#[undef, undef, undef, .pointer (some ⟨w1.heap.size, 0, none⟩), undef, undef, undef, undef, undef, undef, undef, undef, undef, undef, undef, undef, undef, undef, undef, undef, undef, undef, undef, undef, undef, undef, undef, undef, undef, undef, undef, undef, undef, undef, undef, undef, undef, undef, undef, undef, undef, undef, undef, undef, undef, undef, undef, undef, undef, undef, undef, undef, undef, undef], []⟩, rfl, fun d hd => by cases hd; exact (by decide : 30 < 54), ?_⟩
            have k0 := keep_cell hI P0
            have k1 := keep_cell hI P1
            have HI := Lib.hid hI
            clear hI hst hR
            go_wp2
            exact ⟨rfl, _, rfl, rfl, HI.out, fun _ _ h => h⟩
          · refine Owes.mk _ rfl rfl (fun _ _ h => by cases h) fun u m w' hm hI hR => ⟨⟨#[undef, undef, undef, undef, undef, undef, undef, undef, undef, undef, undef, undef, undef, undef, undef, undef, undef, undef, undef, undef, undef, undef, undef, undef, undef, undef, undef, undef, undef, undef, u 0, undef, undef, undef, undef, undef, undef, undef, undef, undef, undef, undef, undef, undef, undef, undef, undef, undef, undef, undef, undef, undef, undef, undef], []⟩, rfl, fun d hd => by cases hd; exact (by decide : 31 < 54), ?_⟩
            have e0 : u 0 = _ := hR 0 (by decide)
            have k0 := keep_cell hI P0
            have k1 := keep_cell hI P1
            have HI := Lib.hid hI
            clear hI hst hR
            rw [e0]
            clear e0
            go_wp2
            exact ⟨rfl, _, rfl, rfl, HI.out, fun _ _ h => h⟩
          · refine Owes.mk _ rfl rfl (fun _ _ h => by cases h) fun u m w' hm hI hR => ⟨⟨#[undef, undef, undef, undef, undef, undef, undef, undef, undef, undef, undef, undef, undef, undef, undef, undef, undef, undef, undef, undef, undef, undef, undef, undef, undef, undef, undef, undef, undef, undef, undef, undef, undef, undef, undef, undef, undef, undef, undef, undef, undef, undef, undef, undef, undef, undef, undef, undef, undef, undef, undef, undef, undef, undef], []⟩, rfl, fun d hd => by cases hd; exact (by decide : 32 < 54), ?_⟩
            have k0 := keep_cell hI P0
            have k1 := keep_cell hI P1
            have HI := Lib.hid hI
            have HS := Lib.hid (facts_stable hst ((below_alloc w' (.cells #[.int .i64 (-1)] 3)).chg []))
            clear hI hst hR
            go_wp2
            exact ⟨rfl, _, rfl, ⟨_, rfl, alloc1_new _ _ _ 0 rfl⟩, HI.out.trans ((below_alloc _ _).mono HI.out.size), HS.out⟩
          · refine Owes.mk _ rfl rfl (fun _ _ h => by cases h) fun u m w' hm hI hR => ⟨⟨#[undef, undef, undef, .pointer (some ⟨w1.heap.size, 0, none⟩), undef, undef, undef, undef, undef, undef, undef, undef, undef, undef, undef, undef, undef, undef, undef, undef, undef, undef, undef, undef, undef, undef, undef, undef, undef, undef, undef, undef, undef, undef, undef, undef, undef, undef, undef, undef, undef, undef, undef, undef, undef, undef, undef, undef, undef, undef, undef, undef, undef, undef], []⟩, rfl, fun d hd => by cases hd; exact (by decide : 33 < 54), ?_⟩
            have k0 := keep_cell hI P0
            have k1 := keep_cell hI P1
            have HI := Lib.hid hI
            clear hI hst hR
            go_wp2
            exact ⟨rfl, _, rfl, rfl, HI.out, fun _ _ h => h⟩
          · refine Owes.mk _ rfl rfl (fun _ _ h => by cases h) fun u m w' hm hI hR => ⟨⟨#[undef, undef, undef, undef, undef, undef, undef, undef, undef, undef, undef, undef, undef, undef, undef, undef, undef, undef, undef, undef, undef, undef, undef, undef, undef, undef, undef, undef, undef, undef, undef, undef, undef, u 3, undef, undef, undef, undef, undef, undef, undef, undef, undef, undef, undef, undef, undef, undef, undef, undef, undef, undef, undef, undef], []⟩, rfl, fun d hd => by cases hd; exact (by decide : 34 < 54), ?_⟩
            have e3 : u 3 = _ := hR 3 (by decide)
            have k0 := keep_cell hI P0
            have k1 := keep_cell hI P1
            have HI := Lib.hid hI
            clear hI hst hR
            rw [e3]
            clear e3
            go_wp2
            exact ⟨rfl, _, rfl, rfl, HI.out, fun _ _ h => h⟩
          · refine Owes.mk _ rfl rfl (fun _ _ h => by cases h) fun u m w' hm hI hR => ⟨⟨#[undef, undef, undef, undef, undef, undef, undef, undef, undef, undef, undef, undef, undef, undef, undef, undef, undef, undef, undef, undef, undef, undef, undef, undef, undef, undef, undef, undef, undef, undef, undef, undef, u 2, undef, u 4, undef, undef, undef, undef, undef, undef, undef, undef, undef, undef, undef, undef, undef, undef, undef, undef, undef, undef, undef], []⟩, rfl, fun d hd => by cases hd; exact (by decide : 35 < 54), ?_⟩
            have e4 : u 4 = _ := hR 4 (by decide)
            have k0 := keep_cell hI P0
            have k1 := keep_cell hI P1
            rw [e4]
            clear e4
            obtain ⟨gq, e27, c27⟩ := hR 2 (by decide)
            rw [e27]
            have HS2 := SlR.flat_cells IntC_len (by decide) (SlR.below intR_fits S1.out hI)
            refine wpList_append_full (K := 1) (c := IntC) (olds := [-1]) (news := h) (m := 6) rfl _ _ 23 3 i0 (.int .i64 0) 8 IntC_len rfl Try.underlying23 ki kz0 kz1 kz2 rfl (by decide) rfl rfl rfl (fun j u hj => by have hj0 : j = 0 := by {have := (List.getElem?_eq_some_iff.1 hj).1; simpa [IntC] using this}; subst hj0; simp [IntC] at hj; subst hj; exact c27) L1.out (by decide) HS2 (by decide) (by decide) ?_
            intro v' w7 ho b7
            obtain ⟨f7, s7, _⟩ := intRow_reads ho
            have HX := Lib.hid s7
            have HS := Lib.hid (facts_stable hst (b7.chg []))
            have HI := Lib.hid (hI.trans (b7.mono hI.size))
            clear hI b7 hst hR HS2 ho s7
            go_wp2
            exact ⟨rfl, _, rfl, ⟨_, HX.out⟩, HI.out, HS.out⟩
          · refine Owes.mk _ rfl rfl (fun _ _ h => by cases h) fun u m w' hm hI hR => ⟨⟨#[undef, undef, undef, undef, undef, undef, undef, undef, undef, undef, undef, undef, undef, undef, undef, undef, undef, undef, undef, undef, undef, undef, undef, undef, undef, undef, undef, undef, undef, undef, undef, u 1, undef, undef, undef, u 5, undef, undef, undef, undef, undef, undef, undef, undef, undef, undef, undef, undef, undef, undef, undef, undef, undef, undef], []⟩, rfl, fun d hd => by cases hd; exact (by decide : 36 < 54), ?_⟩
            have e1 : u 1 = _ := hR 1 (by decide)
            have k0 := keep_cell hI P0
            have k1 := keep_cell hI P1
            rw [e1]
            clear e1
            obtain ⟨f9, h9⟩ := hR 5 (by decide)
            obtain ⟨a9, n9, k9, e9⟩ := h9.form
            rw [e9] at h9
            rw [e9]
            have HX := Lib.hid h9
            have HI := Lib.hid hI
            clear hI hst hR h9 e9
            go_wp2
            exact ⟨rfl, _, rfl, ⟨_, _, _, _, rfl, HX.out⟩, HI.out, fun _ _ h => h⟩
          · refine Owes.mk _ rfl rfl (fun _ _ h => by cases h) fun u m w' hm hI hR => ⟨⟨#[undef, undef, undef, undef, undef, undef, undef, undef, undef, undef, undef, undef, undef, undef, undef, undef, undef, undef, undef, undef, undef, undef, undef, undef, undef, undef, undef, undef, undef, undef, undef, undef, undef, undef, undef, undef, undef, undef, undef, undef, undef, undef, undef, undef, undef, undef, undef, undef, undef, undef, undef, undef, undef, undef], []⟩, rfl, fun d hd => by cases hd; exact (by decide : 6 < 54), ?_⟩
            have k0 := keep_cell hI P0
            have k1 := keep_cell hI P1
            have HI := Lib.hid hI
            have HS := Lib.hid (facts_stable hst ((below_alloc w' (.cells #[.slice none 0 0, .slice none 0 0] 67)).chg []))
            clear hI hst hR
            go_wp2
            exact ⟨rfl, _, rfl, ⟨_, rfl, HI.out.size, by simp, alloc1_new _ _ _ 0 rfl, alloc1_new _ _ _ 1 rfl, alloc1_free _ _ _ _, alloc1_free _ _ _ _, noInt_alloc _ _ _ _ _ _ _ _⟩, HI.out.trans ((below_alloc _ _).mono HI.out.size), HS.out⟩
        case hend =>
          intro u w' hI hR
          simp only [setAll, List.set_cons_zero, List.set_cons_succ]
          have hI' := hI
          obtain ⟨aY, nY, kY, fY, eY, sY⟩ := hR 6 (by decide)
          obtain ⟨Yb, em, hb1, hb2, c0', c1', z0, z1, hno⟩ := hR 7 (by decide)
          rw [eY, em]
          have hcw : Chg [Yb] w' ((w'.setCell ⟨Yb, 0, none⟩ (.slice am nm cm)).setCell ⟨Yb, 1, none⟩ (.slice aY nY kY)) := (store_chg _).trans' (store_chg _)
          obtain ⟨Wy, hWy⟩ : ∃ W, W = (w'.setCell ⟨Yb, 0, none⟩ (.slice am nm cm)).setCell ⟨Yb, 1, none⟩ (.slice aY nY kY) := ⟨_, rfl⟩
          have Y0 : Wy.cell? ⟨Yb, 0, none⟩ = some (.slice am nm cm) := by rw [hWy]; exact setOther _ (by decide) (setSame _ c0')
          have Y1 : Wy.cell? ⟨Yb, 1, none⟩ = some (.slice aY nY kY) := by rw [hWy]; exact setSame _ (setOther _ (by decide) c1')
          rw [← hWy] at hcw
          have bw : Below Wx.heap.size Wx Wy := ((hI'.chg []).trans hcw).home (fun b hb => by simp at hb; omega)
          have nx : Yb ∉ fY := int_off sY (by simp) hno
          have SY := Lib.hid (sY.chg intR_fits hcw (fun b hb hb' => by simp at hb'; subst hb'; exact nx hb))
          replace P0 := keep_cell bw P0
          replace P1 := keep_cell bw P1
          replace X0 := keep_cell bw X0
          replace X1 := keep_cell bw X1
          replace SX := Lib.hid (SlR.below intR_fits SX.out bw)
          replace S0 := Lib.hid (SlR.below intR_fits S0.out bw)
          replace S1 := Lib.hid (SlR.below intR_fits S1.out bw)
          replace B1 := Lib.hid (B1.out.trans (bw.mono B1.out.size))
          clear hR hst hI hI' bw em eY sY hb1 hb2 hcw nx hno
          go_wp2_with fail
          rw [← hWy]
          clear hWy c0' c1' z0 z1
          have hst : ∀ F, F ∈ [FEq (.pointer (some ⟨w1.heap.size, 0, none⟩)), FEq (.agg #[.slice am nm cm]), FNew, FSlR 1 intR atmNew.holds, FAg (.slice am nm cm) (atmNew.holds), FBlk2 Wy.heap.size (.slice none 0 0) (.slice none 0 0)] → Stable [] F := by
            simp only [List.forall_mem_cons]
            exact ⟨stEq _ _, stEq _ _, stNew, stSlR intR_fits _, stAg _ _, stBlk2 _ _ _, fun _ h => by simp at h⟩
          refine wp_region_tail (by kernel_rfl) (fun i => ([[], [0], [], [2], [0, 1, 2, 3], [], [0, 1, 2, 3, 4, 5]] : List (List Nat)).getD i []) (facts [FEq (.pointer (some ⟨w1.heap.size, 0, none⟩)), FEq (.agg #[.slice am nm cm]), FNew, FSlR 1 intR atmNew.holds, FAg (.slice am nm cm) (atmNew.holds), FBlk2 Wy.heap.size (.slice none 0 0) (.slice none 0 0)]) (fun m w' => Below Wy.heap.size Wy w') 54 7 6 [some 37, some 38, some 39, some 40, some 41, some 7] _ rfl rfl (by decide) rfl rfl (by kernel_rfl) (by kernel_rfl) [] (by kernel_rfl) (fun g b hm v w h => by simp at hm) ?h0 (all_lt (n := 6) ?hop) ?hend
          case h0 => exact (Below.refl _ _).drew
          case hop =>
            refine ⟨⟨⟨⟨⟨⟨trivial, ?_⟩, ?_⟩, ?_⟩, ?_⟩, ?_⟩, ?_⟩
            · refine Owes.mk _ rfl rfl (fun _ _ h => by cases h) fun u m w' hm hI hR => ⟨⟨#[undef, undef, undef, .pointer (some ⟨w1.heap.size, 0, none⟩), undef, undef, undef, undef, undef, undef, undef, undef, undef, undef, undef, undef, undef, undef, undef, undef, undef, undef, undef, undef, undef, undef, undef, undef, undef, undef, undef, undef, undef, undef, undef, undef, undef, undef, undef, undef, undef, undef, undef, undef, undef, undef, undef, undef, undef, undef, undef, undef, undef, undef], []⟩, rfl, fun d hd => by cases hd; exact (by decide : 37 < 54), ?_⟩
              have k0 := keep_cell hI P0
              have k1 := keep_cell hI P1
              have HI := Lib.hid hI
              clear hI hst hR
              go_wp2
              exact ⟨rfl, _, rfl, rfl, HI.out, fun _ _ h => h⟩
            · refine Owes.mk _ rfl rfl (fun _ _ h => by cases h) fun u m w' hm hI hR => ⟨⟨#[undef, undef, undef, undef, undef, undef, undef, undef, undef, undef, undef, undef, undef, undef, undef, undef, undef, undef, undef, undef, undef, undef, undef, undef, undef, undef, undef, undef, undef, undef, undef, undef, undef, undef, undef, undef, undef, u 0, undef, undef, undef, undef, undef, undef, undef, undef, undef, undef, undef, undef, undef, undef, undef, undef], []⟩, rfl, fun d hd => by cases hd; exact (by decide : 38 < 54), ?_⟩
              have e0 : u 0 = _ := hR 0 (by decide)
              have k0 := keep_cell hI P0
              have k1 := keep_cell hI P1
              have HI := Lib.hid hI
              clear hI hst hR
              rw [e0]
              clear e0
              go_wp2
              exact ⟨rfl, _, rfl, rfl, HI.out, fun _ _ h => h⟩
            · refine Owes.mk _ rfl rfl (fun _ _ h => by cases h) fun u m w' hm hI hR => ⟨⟨#[undef, undef, undef, undef, undef, undef, undef, undef, undef, undef, undef, undef, undef, undef, undef, undef, undef, undef, undef, undef, undef, undef, undef, undef, undef, undef, undef, undef, undef, undef, undef, undef, undef, undef, undef, undef, undef, undef, undef, undef, undef, undef, undef, undef, undef, undef, undef, undef, undef, undef, undef, undef, undef, undef], []⟩, rfl, fun d hd => by cases hd; exact (by decide : 39 < 54), ?_⟩
              have k0 := keep_cell hI P0
              have k1 := keep_cell hI P1
              go_wp2_with fail
              refine (iAtmNew_any _).mono ?_
              rintro e w7 ⟨u0, e0, u1, e1, rfl, _, t1, _, b7⟩
              have HX := Lib.hid t1
              have HS := Lib.hid (facts_stable hst (b7.chg []))
              have HI := Lib.hid (hI.trans (b7.mono hI.size))
              clear hI b7 hst hR t1
              go_wp2
              exact ⟨rfl, _, rfl, ⟨_, _, _, rfl, HX.out⟩, HI.out, HS.out⟩
            · refine Owes.mk _ rfl rfl (fun _ _ h => by cases h) fun u m w' hm hI hR => ⟨⟨#[undef, undef, undef, undef, undef, undef, undef, undef, undef, undef, undef, undef, undef, undef, undef, undef, undef, undef, undef, undef, undef, undef, undef, undef, undef, undef, undef, undef, undef, undef, undef, undef, undef, undef, undef, undef, undef, undef, undef, u 2, undef, undef, undef, undef, undef, undef, undef, undef, undef, undef, undef, undef, undef, undef], []⟩, rfl, fun d hd => by cases hd; exact (by decide : 40 < 54), ?_⟩
              have k0 := keep_cell hI P0
              have k1 := keep_cell hI P1
              obtain ⟨u0, u1, f2, e2, h2⟩ := hR 2 (by decide)
              obtain ⟨aq, nq, cq, e3⟩ := h2.form
              rw [e3] at h2 e2
              rw [e2]
              have HX := Lib.hid h2
              have HI := Lib.hid hI
              clear hI hst hR h2 e2 e3
              go_wp2
              rename_i hK
              exact hK _ _ ⟨rfl, _, rfl, ⟨_, HX.out⟩, HI.out, fun _ _ h => h⟩
            · refine Owes.mk _ rfl rfl (fun _ _ h => by cases h) fun u m w' hm hI hR => ⟨⟨#[undef, undef, undef, undef, undef, undef, undef, undef, undef, undef, undef, undef, undef, undef, undef, undef, undef, undef, undef, undef, undef, undef, undef, undef, undef, undef, undef, undef, undef, undef, undef, undef, undef, undef, undef, undef, undef, undef, u 1, undef, u 3, undef, undef, undef, undef, undef, undef, undef, undef, undef, undef, undef, undef, undef], []⟩, rfl, fun d hd => by cases hd; exact (by decide : 41 < 54), ?_⟩
              have e1 : u 1 = _ := hR 1 (by decide)
              have k0 := keep_cell hI P0
              have k1 := keep_cell hI P1
              rw [e1]
              clear e1
              obtain ⟨f9, h9⟩ := hR 3 (by decide)
              obtain ⟨a9, n9, k9, e9⟩ := h9.form
              rw [e9] at h9
              rw [e9]
              have HX := Lib.hid h9
              have HI := Lib.hid hI
              clear hI hst hR h9 e9
              go_wp2
              exact ⟨rfl, _, rfl, ⟨_, _, _, _, rfl, HX.out⟩, HI.out, fun _ _ h => h⟩
            · refine Owes.mk _ rfl rfl (fun _ _ h => by cases h) fun u m w' hm hI hR => ⟨⟨#[undef, undef, undef, undef, undef, undef, undef, undef, undef, undef, undef, undef, undef, undef, undef, undef, undef, undef, undef, undef, undef, undef, undef, undef, undef, undef, undef, undef, undef, undef, undef, undef, undef, undef, undef, undef, undef, undef, undef, undef, undef, undef, undef, undef, undef, undef, undef, undef, undef, undef, undef, undef, undef, undef], []⟩, rfl, fun d hd => by cases hd; exact (by decide : 7 < 54), ?_⟩
              have k0 := keep_cell hI P0
              have k1 := keep_cell hI P1
              have HI := Lib.hid hI
              have HS := Lib.hid (facts_stable hst ((below_alloc w' (.cells #[.slice none 0 0, .slice none 0 0] 67)).chg []))
              clear hI hst hR
              go_wp2
              exact ⟨rfl, _, rfl, ⟨_, rfl, HI.out.size, by simp, alloc1_new _ _ _ 0 rfl, alloc1_new _ _ _ 1 rfl, alloc1_free _ _ _ _, alloc1_free _ _ _ _, noInt_alloc _ _ _ _ _ _ _ _⟩, HI.out.trans ((below_alloc _ _).mono HI.out.size), HS.out⟩
          case hend =>
            intro u w' hI hR
            simp only [setAll, List.set_cons_zero, List.set_cons_succ]
            have hI' := hI
            obtain ⟨aZ, nZ, kZ, fZ, eZ, sZ⟩ := hR 4 (by decide)
            obtain ⟨Zb, em, hb1, hb2, c0', c1', z0, z1, hno⟩ := hR 5 (by decide)
            rw [eZ, em]
            have hcw : Chg [Zb] w' ((w'.setCell ⟨Zb, 0, none⟩ (.slice am nm cm)).setCell ⟨Zb, 1, none⟩ (.slice aZ nZ kZ)) := (store_chg _).trans' (store_chg _)
            obtain ⟨Wz, hWz⟩ : ∃ W, W = (w'.setCell ⟨Zb, 0, none⟩ (.slice am nm cm)).setCell ⟨Zb, 1, none⟩ (.slice aZ nZ kZ) := ⟨_, rfl⟩
            have Z0 : Wz.cell? ⟨Zb, 0, none⟩ = some (.slice am nm cm) := by rw [hWz]; exact setOther _ (by decide) (setSame _ c0')
            have Z1 : Wz.cell? ⟨Zb, 1, none⟩ = some (.slice aZ nZ kZ) := by rw [hWz]; exact setSame _ (setOther _ (by decide) c1')
            rw [← hWz] at hcw
            have bw : Below Wy.heap.size Wy Wz := ((hI'.chg []).trans hcw).home (fun b hb => by simp at hb; omega)
            have nx : Zb ∉ fZ := int_off sZ (by decide) hno
            have SZ := Lib.hid (sZ.chg intR_fits hcw (fun b hb hb' => by simp at hb'; subst hb'; exact nx hb))
            replace X0 := keep_cell bw X0
            replace X1 := keep_cell bw X1
            replace Y0 := keep_cell bw Y0
            replace Y1 := keep_cell bw Y1
            replace SX := Lib.hid (SlR.below intR_fits SX.out bw)
            replace SY := Lib.hid (SlR.below intR_fits SY.out bw)
            replace S0 := Lib.hid (SlR.below intR_fits S0.out bw)
            replace B1 := Lib.hid (B1.out.trans (bw.mono B1.out.size))
            clear hR hst hI hI' bw em eZ sZ hb1 hb2 hcw nx hno P0 P1 S1
            go_upto_region 12 with fail
            rw [← hWz]
            clear hWz c0' c1' z0 z1
            go_wp2_with fail
            refine (iAtmOk_any ⟨m, 64 :: ht⟩ _ _ f0 _ _ S0.out SX.out).mono ?_
            rw [bad0]
            rintro e w7 ⟨rfl, b⟩
            replace Y0 := keep_cell b Y0
            replace Y1 := keep_cell b Y1
            replace Z0 := keep_cell b Z0
            replace Z1 := keep_cell b Z1
            replace SY := Lib.hid (SlR.below intR_fits SY.out b)
            replace SZ := Lib.hid (SlR.below intR_fits SZ.out b)
            replace S0 := Lib.hid (SlR.below intR_fits S0.out b)
            replace B1 := Lib.hid (B1.out.trans (b.mono B1.out.size))
            clear b X0 X1 SX
            go_wp2_with fail
            refine (iAtmOk_any ⟨m, -1 :: h⟩ _ _ f0 _ _ S0.out SY.out).mono ?_
            rw [bad1 L1.out]
            rintro e w8 ⟨rfl, b⟩
            replace Z0 := keep_cell b Z0
            replace Z1 := keep_cell b Z1
            replace SZ := Lib.hid (SlR.below intR_fits SZ.out b)
            replace S0 := Lib.hid (SlR.below intR_fits S0.out b)
            replace B1 := Lib.hid (B1.out.trans (b.mono B1.out.size))
            clear b Y0 Y1 SY
            go_wp2_with fail
            refine (iAtmOk_any ⟨m, atmNew.holds⟩ _ _ f0 _ _ S0.out SZ.out).mono ?_
            rw [fine HBB.out.symm]
            rintro e w9 ⟨rfl, b⟩
            replace B1 := Lib.hid (B1.out.trans (b.mono B1.out.size))
            clear b
            go_wp2
            go_ret
            exact ⟨rfl, B1.out⟩

set_option maxRecDepth 100000 in
theorem lifted (os : Os) (started : os.Started) (H : Type) (enc : TypeId × Value → H) :
    ReturnsInHanded {} Try.checked os 12 .any (Rows.fnAtmOkSpec.pre6 enc Try.prog Try.f12 Rows.fnAtmOkRow.domain false) (Rows.fnAtmOkSpec.post enc Try.prog Try.f12 false true false false) := by
  refine returnsInHanded_of_change (C := Try.checked) own started (by kernel_rfl) Try.func12
    (ChangeSpec.witness6 (enc := enc) (C := Try.checked) false ⟨#[], #[.slice none 0 0], []⟩ 8 (by kernel_rfl) (by kernel_rfl) (by kernel_rfl) (by kernel_rfl)) ?_
  intro W base args ds gs before hval0 hW hcnd _
  have hval : ∀ (j : Nat) t v, Try.f12.params[j]? = some t → args[j]? = some v → Value.okWide Try.prog W .any base t v := hval0
  have hW' := hW
  obtain ⟨p, q, hA0, hV, rfl, hfz, hnd⟩ := hW
  have hA : DataW.TrodAll enc Try.prog W 0 (fun _ => true) true Try.f12.params.toList args.toList ds p := hA0
  rw [Try.params12] at hA hval
  obtain ⟨v0, vs0, d0, ds0, p0, q0, hargs, rfl, rfl, h0, r0⟩ := trodAll_cons hA
  obtain ⟨rfl, rfl, rfl⟩ := trodAll_nil r0
  obtain rfl : args = #[v0] := by cases args; simp_all
  obtain ⟨rfl, rfl⟩ := trodVars_none hV
  clear hA0 hval0
  simp only [List.append_nil] at hW'
  have hlt0 : ∀ x ∈ p0, x.block < W.heap.size := fun x hx => by simpa using hW'.lt x (by simp [hx])
  have hk0 := h0
  obtain ⟨ad0, len0, cap0, rfl⟩ := okWide_slice Try.underlying73 (hval 0 73 v0 rfl rfl)
  obtain ⟨fuel0, hf0⟩ := h0
  obtain ⟨x0, fp0, y0, e0, g0⟩ := (opens_slice Try.underlying73 (by kernel_rfl) (by decide) (opens_byte Try.underlying5) byteR_fits) hf0
  obtain rfl : .slice ad0 len0 cap0 = y0 := by simpa [Value.cells] using e0
  refine (walk (.slice ad0 len0 cap0) x0 fp0 W g0).mono fun e W' ⟨he, hb⟩ => ?_
  subst he
  exact ⟨_, rfl, _, _, _, [], _, [], hW', (trodAll_cons_mk (shut_bool Try.underlying4 _) trodAll_mk0), (trodAll_cons_mk (Below.trod laidOut (by kernel_rfl) (of_decide_eq_true (by kernel_rfl)) hk0 hb hlt0) trodAll_mk0), rfl, hb.frame _, fun h => by cases h⟩

theorem over : Rows.fnAtmOkRow.holds Try.pinned (OpenSpec.ofChange Rows.fnAtmOkSpec) :=
  OpenClaim.holds_of_wide 12 Try.f12 rfl rfl rfl rfl rfl rfl rfl ⟨rfl, rfl, rfl, rfl, rfl⟩ rfl rfl rfl rfl rfl (by kernel_rfl) Try.func12 (by kernel_rfl)
    (of_decide_eq_true (by kernel_rfl)) (by unfold Func.isWrapper; first | (rw [if_pos (by decide +kernel)]; kernel_rfl) | (rw [if_neg (by decide +kernel)]; exact ⟨rfl, rfl⟩))
    (fun os started H enc _ => lifted os started H enc)

theorem proved : Rows.FnAtmOkSaid :=
  over
#print axioms proved
end Go.Proofs.Ytmmojgopeaelcaa.fnAtmOk