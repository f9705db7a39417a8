/-
  What comes from outside, drawn: l20In, DrawInOk.
-/
import Derived.Test.YtmmojgopeaelcaaProg
import Derived.Test.YtmmojgopeaelcaaBase
import Derived.Test.YtmmojgopeaelcaaDraw
import Derived.Test.YtmmojgopeaelcaaOwn
import Derived.Test.YtmmojgopeaelcaaIn
import Derived.Test.YtmmojgopeaelcaaInAll
import Derived.Test.YtmmojgopeaelcaaFacts
import Derived.Test.YtmmojgopeaelcaaDBox
import Derived.Test.YtmmojgopeaelcaaRegion3
import Derived.Deep.DeepCutAuto
import Derived.Deep.CutBlock
import Derived.WalkSmall
namespace Go.Proofs.Ytmmojgopeaelcaa
set_option linter.unusedVariables false
set_option linter.unusedSimpArgs false
open Go.RowKit Go.ChangeShapes Go.WideShapes

def BoolC (x : Bool) : List Value := [.bool x]
theorem BoolC_len (x : Bool) : (BoolC x).length = 1 := rfl
abbrev BoolRow := OwnR 1 BoolC 4
theorem boolRow_reads {w : World} {base : Nat} {v : Value} {l : List Bool} (h : BoolRow base w v l) : ∃ fp, SlR 1 boolR w l v fp ∧ (∀ b, b ∈ fp → base ≤ b) ∧ fp.Nodup ∧ Free fp w := OwnR.reads BoolC_len h
theorem bown_lt {w : World} {base : Nat} {v : Value} {l : List Bool} (h : BoolRow base w v l) {g : Nat} (e : v.ownBlock = some g) : base ≤ g ∧ g < w.heap.size := World.ownsRow.lt h g e

/-- What comes from outside, in a block of its own, and its three rows. -/
structure InAt (bq g : Nat) (w : World) (x : CycIn) : Prop where
  c0 : w.cell? ⟨bq, 0, none⟩ = some (.slice (some ⟨g, 0, none⟩) 3 3)
  c1 : w.cell? ⟨bq, 1, none⟩ = some (.slice (some ⟨g + 1, 0, none⟩) 4 4)
  c2 : w.cell? ⟨bq, 2, none⟩ = some (.slice (some ⟨g + 1 + 1, 0, none⟩) 3 3)
  fz : ∀ j, w.frozen? ⟨bq, j, none⟩ = false
  r : BoolRow g w (.slice (some ⟨g, 0, none⟩) 3 3) x.ready
  s : BoolRow g w (.slice (some ⟨g + 1, 0, none⟩) 4 4) x.stall
  t : BoolRow g w (.slice (some ⟨g + 1 + 1, 0, none⟩) 3 3) x.send
  lr : x.ready.length = 3
  ls : x.stall.length = 4
  lt : x.send.length = 3
theorem InAt.chg {bq g rb : Nat} {w w' : World} {x : CycIn} (h : InAt bq g w x) (hc : Chg [rb] w w') (hr : rb < g) (hb : rb ≠ bq) : InAt bq g w' x := by
  have nb : bq ∉ [rb] := by simp; omega
  exact ⟨keep_cell_chg hc h.c0 nb, keep_cell_chg hc h.c1 nb, keep_cell_chg hc h.c2 nb, fun j => (World.frozen?_of_block (hc.block bq (block_of_cell h.c0) nb)).trans (h.fz j), OwnR.chg h.r hc (by omega), OwnR.chg h.s hc (by omega), OwnR.chg h.t hc (by omega), h.lr, h.ls, h.lt⟩
theorem InAt.below {bq g : Nat} {w w' : World} {x : CycIn} (h : InAt bq g w x) (hb : Below w.heap.size w w') : InAt bq g w' x :=
  ⟨keep_cell hb h.c0, keep_cell hb h.c1, keep_cell hb h.c2, fun j => (World.frozen?_of_block (hb.block bq (block_of_cell h.c0))).trans (h.fz j), OwnR.below h.r hb, OwnR.below h.s hb, OwnR.below h.t hb, h.lr, h.ls, h.lt⟩
theorem row_far {α : Type} {K : Nat} {c : α → List Value} {e : TypeId} {base g j : Nat} {w : World} {v u : Value} {l : List α} (h : OwnR K c e base w v l) (hne : v.ownBlock ≠ some g) : OwnR K c e base (w.setCell ⟨g, j, none⟩ u) v l := by
  obtain ⟨hl, ⟨rfl, h1⟩ | ⟨g', cap, cur, rfl, hb, hg, hnc, hcm, hcs, htake⟩⟩ := h
  · exact ⟨hl, .inl ⟨rfl, h1⟩⟩
  · refine ⟨hl, .inr ⟨g', cap, cur, rfl, hb, (Below.heap_setCell _ _ _ _ (fun e => hne (congrArg some e))).trans hg, hnc, hcm, hcs, htake⟩⟩
theorem InAt.put_ready {bq g i : Nat} {w : World} {x : CycIn} (h : InAt bq g w x) (hb : g + 1 + 1 < bq) (hi : i < x.ready.length) (b : Bool) : InAt bq g (w.setCell ⟨g, i, none⟩ (.bool b)) { x with ready := x.ready.set i b } :=
  ⟨setFar _ (by omega) h.c0, setFar _ (by omega) h.c1, setFar _ (by omega) h.c2, fun j => (World.frozen?_setCell _ _ _ _).trans (h.fz j), (by simpa using OwnR.store BoolC_len h.r hi (j := 0) (by decide) (.bool b) b rfl), row_far h.s (by simp [Value.ownBlock] <;> omega), row_far h.t (by simp [Value.ownBlock] <;> omega), (by rw [List.length_set]; exact h.lr), h.ls, h.lt⟩
theorem InAt.put_stall {bq g i : Nat} {w : World} {x : CycIn} (h : InAt bq g w x) (hb : g + 1 + 1 < bq) (hi : i < x.stall.length) (b : Bool) : InAt bq g (w.setCell ⟨g + 1, i, none⟩ (.bool b)) { x with stall := x.stall.set i b } :=
  ⟨setFar _ (by omega) h.c0, setFar _ (by omega) h.c1, setFar _ (by omega) h.c2, fun j => (World.frozen?_setCell _ _ _ _).trans (h.fz j), row_far h.r (by simp [Value.ownBlock] <;> omega), (by simpa using OwnR.store BoolC_len h.s hi (j := 0) (by decide) (.bool b) b rfl), row_far h.t (by simp [Value.ownBlock] <;> omega), h.lr, (by rw [List.length_set]; exact h.ls), h.lt⟩
theorem InAt.put_send {bq g i : Nat} {w : World} {x : CycIn} (h : InAt bq g w x) (hb : g + 1 + 1 < bq) (hi : i < x.send.length) (b : Bool) : InAt bq g (w.setCell ⟨g + 1 + 1, i, none⟩ (.bool b)) { x with send := x.send.set i b } :=
  ⟨setFar _ (by omega) h.c0, setFar _ (by omega) h.c1, setFar _ (by omega) h.c2, fun j => (World.frozen?_setCell _ _ _ _).trans (h.fz j), row_far h.r (by simp [Value.ownBlock] <;> omega), row_far h.s (by simp [Value.ownBlock] <;> omega), (by simpa using OwnR.store BoolC_len h.t hi (j := 0) (by decide) (.bool b) b rfl), h.lr, h.ls, (by rw [List.length_set]; exact h.lt)⟩

set_option maxRecDepth 100000 in
set_option maxHeartbeats 1600000 in
theorem sInAll_own (w : World) :
    Calls Try.prog 167 #[] w fun e w' => ∃ g : Nat, e = .returned (.agg #[.slice (some ⟨g, 0, none⟩) 3 3, .slice (some ⟨g + 1, 0, none⟩) 4 4, .slice (some ⟨g + 1 + 1, 0, none⟩) 3 3]) ∧ w.heap.size ≤ g ∧ BoolRow g w' (.slice (some ⟨g, 0, none⟩) 3 3) inAll.ready ∧ BoolRow g w' (.slice (some ⟨g + 1, 0, none⟩) 4 4) inAll.stall ∧ BoolRow g w' (.slice (some ⟨g + 1 + 1, 0, none⟩) 3 3) inAll.send ∧ Below w.heap.size w w' := by
  go_enter Try.func167, Try.ntmps167
  go_wp2
  obtain ⟨W0, h0⟩ : ∃ W, W = w.alloc (.cells #[.slice (some ⟨w.heap.size + 1, 0, none⟩) 3 3, .slice (some ⟨w.heap.size + 1 + 1, 0, none⟩) 4 4, .slice (some ⟨w.heap.size + 1 + 1 + 1, 0, none⟩) 3 3] 86) := ⟨_, rfl⟩
  have z0 : W0.heap.size = w.heap.size + 1 := by rw [h0]; simp
  have c0 : W0.cell? ⟨w.heap.size, 0, none⟩ = some (.slice (some ⟨w.heap.size + 1, 0, none⟩) 3 3) := by rw [h0]; exact alloc1_new w _ _ 0 rfl
  have c1 : W0.cell? ⟨w.heap.size, 1, none⟩ = some (.slice (some ⟨w.heap.size + 1 + 1, 0, none⟩) 4 4) := by rw [h0]; exact alloc1_new w _ _ 1 rfl
  have c2 : W0.cell? ⟨w.heap.size, 2, none⟩ = some (.slice (some ⟨w.heap.size + 1 + 1 + 1, 0, none⟩) 3 3) := by rw [h0]; exact alloc1_new w _ _ 2 rfl
  have b0 : Below w.heap.size w W0 := by rw [h0]; exact below_alloc _ _
  rw [← h0]
  clear h0
  have s1 : BoolRow (w.heap.size + 1) (W0.alloc (.cells #[.bool true, .bool true, .bool true] 4)) (.slice (some ⟨W0.heap.size, 0, none⟩) 3 3) inAll.ready := OwnR.lit W0 _ 3 _ BoolC_len rfl rfl (by omega) (by decide)
  obtain ⟨W1, h1⟩ : ∃ W, W = W0.alloc (.cells #[.bool true, .bool true, .bool true] 4) := ⟨_, rfl⟩
  have b1 : Below W0.heap.size W0 W1 := by rw [h1]; exact below_alloc _ _
  have z1 : W1.heap.size = W0.heap.size + 1 := by rw [h1]; simp
  rw [← h1] at s1 ⊢
  clear h1
  have s2 : BoolRow (w.heap.size + 1) (W1.alloc (.cells #[.bool false, .bool false, .bool false, .bool false] 4)) (.slice (some ⟨W1.heap.size, 0, none⟩) 4 4) inAll.stall := OwnR.lit W1 _ 4 _ BoolC_len rfl rfl (by omega) (by decide)
  obtain ⟨W2, h2⟩ : ∃ W, W = W1.alloc (.cells #[.bool false, .bool false, .bool false, .bool false] 4) := ⟨_, rfl⟩
  have b2 : Below W1.heap.size W1 W2 := by rw [h2]; exact below_alloc _ _
  have z2 : W2.heap.size = W1.heap.size + 1 := by rw [h2]; simp
  rw [← h2] at s2 ⊢
  clear h2
  have s3 : BoolRow (w.heap.size + 1) (W2.alloc (.cells #[.bool true, .bool true, .bool true] 4)) (.slice (some ⟨W2.heap.size, 0, none⟩) 3 3) inAll.send := OwnR.lit W2 _ 3 _ BoolC_len rfl rfl (by omega) (by decide)
  obtain ⟨W3, h3⟩ : ∃ W, W = W2.alloc (.cells #[.bool true, .bool true, .bool true] 4) := ⟨_, rfl⟩
  have b3 : Below W2.heap.size W2 W3 := by rw [h3]; exact below_alloc _ _
  rw [← h3] at s3 ⊢
  clear h3
  have b13 : Below W1.heap.size W1 W3 := b2.trans (b3.mono (by omega))
  have b03 : Below W0.heap.size W0 W3 := b1.trans (b13.mono (by omega))
  have d0 := keep_cell b03 c0
  have d1 := keep_cell b03 c1
  have d2 := keep_cell b03 c2
  have t1 := OwnR.below s1 b13
  have t2 := OwnR.below s2 b3
  rw [z2, z1, z0] at s3
  rw [z1, z0] at t2
  rw [z0] at t1
  exact bodyPost_ret (v := .agg #[.slice (some ⟨w.heap.size + 1, 0, none⟩) 3 3, .slice (some ⟨w.heap.size + 1 + 1, 0, none⟩) 4 4, .slice (some ⟨w.heap.size + 1 + 1 + 1, 0, none⟩) 3 3]) (by simp [results, Try.results167, go_sem, d0, d1, d2]) rfl
    ⟨w.heap.size + 1, rfl, by omega, t1, t2, s3, b0.trans (b03.mono (by omega))⟩

set_option maxRecDepth 100000 in
set_option maxHeartbeats 3200000 in
theorem l20In_any (rb : Nat) (fq : List Nat) (N slow : Int) (hn : 1 ≤ slow) (hn' : slow ≤ 1000) (hN : N ≤ 990000000) (w : World) (h : RdAt w rb fq N) (fl : ∀ b, b ∈ fq → b < w.heap.size) :
    Calls Try.prog 115 #[.pointer (some ⟨rb, 0, none⟩), .int .i64 slow] w fun e w' => ∃ (g : Nat) (x : CycIn), e = .returned (.agg #[.slice (some ⟨g, 0, none⟩) 3 3, .slice (some ⟨g + 1, 0, none⟩) 4 4, .slice (some ⟨g + 1 + 1, 0, none⟩) 3 3]) ∧ w.heap.size ≤ g ∧ BoolRow g w' (.slice (some ⟨g, 0, none⟩) 3 3) x.ready ∧ BoolRow g w' (.slice (some ⟨g + 1, 0, none⟩) 4 4) x.stall ∧ BoolRow g w' (.slice (some ⟨g + 1 + 1, 0, none⟩) 3 3) x.send ∧ x.ready.length = 3 ∧ x.stall.length = 4 ∧ x.send.length = 3 ∧ RdAt w' rb fq (N + 200) ∧ Chg [rb] w w' := by
  have hlt := h.lt
  have FL := Lib.hid fl
  obtain ⟨W0, hW⟩ : ∃ W, W = w.alloc (.cells #[.slice none 0 0, .slice none 0 0, .slice none 0 0] 86) := ⟨_, rfl⟩
  have hb0 : Below w.heap.size w W0 := by rw [hW]; exact below_alloc _ _
  have hz0 : W0.heap.size = w.heap.size + 1 := by rw [hW]; simp
  have HR0 : Hid (∀ j, j < 3 → ∃ u, W0.cell? ⟨w.heap.size, j, none⟩ = some u) := Lib.hid (fun j hj => by rw [hW]; exact ⟨_, alloc1_new w _ _ j (by simp [hj]; rfl)⟩)
  have HF0 : Hid (∀ j, W0.frozen? ⟨w.heap.size, j, none⟩ = false) := Lib.hid (fun j => by rw [hW]; exact World.frozen?_alloc_at _ _ _ _ rfl)
  have H0 := Lib.hid ((h.below hb0).mono (show N ≤ N + 0 by omega))
  have B0 := Lib.hid hb0
  have HZ0 := Lib.hid hz0
  clear h fl hb0 hz0
  go_enter Try.func115, Try.ntmps115
  go_wp2_with fail
  rw [← hW]
  clear hW
  refine (sInAll_own _).mono ?_
  rintro e w1 ⟨g, rfl, hg, r1, r2, r3, b1⟩
  have hg2 : g + 1 + 1 < w1.heap.size := (bown_lt r3 (g := g + 1 + 1) rfl).2
  obtain ⟨bq, hbq⟩ : ∃ b, b = w1.heap.size := ⟨_, rfl⟩
  obtain ⟨W2, hW2⟩ : ∃ W, W = w1.alloc (.cells #[.slice (some ⟨g, 0, none⟩) 3 3, .slice (some ⟨g + 1, 0, none⟩) 4 4, .slice (some ⟨g + 1 + 1, 0, none⟩) 3 3] 86) := ⟨_, rfl⟩
  have ba : Below w1.heap.size w1 W2 := by rw [hW2]; exact below_alloc _ _
  have hq : InAt bq g W2 inAll := by
    rw [hbq]
    exact ⟨by rw [hW2]; exact alloc1_new w1 _ _ 0 rfl, by rw [hW2]; exact alloc1_new w1 _ _ 1 rfl, by rw [hW2]; exact alloc1_new w1 _ _ 2 rfl, fun j => by rw [hW2]; exact World.frozen?_alloc_at _ _ _ _ rfl, OwnR.below r1 ba, OwnR.below r2 ba, OwnR.below r3 ba, rfl, rfl, rfl⟩
  have hz := HZ0.out
  have hrg : rb < g := by omega
  have hbg : g + 1 + 1 < bq := by omega
  have hrq : rb ≠ bq := by omega
  have nbq : bq ∉ [rb] := by simp; omega
  have HQ1 := Lib.hid hq
  have HR1 := Lib.hid ((H0.out.below b1).below ba)
  have HC1 := Lib.hid (show Low rb g W0 W2 from ⟨hg, (b1.trans (ba.mono b1.size)).chg [rb]⟩)
  have hflg : ∀ b, b ∈ fq → b < g := fun b hb => by have := FL.out b hb; omega
  have FLG := Lib.hid hflg
  clear hq r1 r2 r3 b1 ba hflg
  go_wp2_with fail
  rw [← hW2, ← hbq]
  clear hW2 hbq hg2
  go_loopw [6] (fun i wr => ∃ (k : Nat) (y : CycIn), k ≤ 3 ∧ i = .int .i64 k ∧ InAt bq g wr y ∧ RdAt wr rb fq (N + 20 * k) ∧ Low rb g W0 wr) (fun i _ => 3 - (intOf i).toNat)
  case atStart => exact ⟨0, _, by omega, rfl, HQ1.out, HR1.out.mono (by omega), HC1.out⟩
  case round =>
    obtain ⟨k, y, hk, rfl, hq, hrd, hch⟩ := hrel
    have HQ := Lib.hid hq
    have HR := Lib.hid hrd
    have HC := Lib.hid hch
    clear hq hrd hch HQ1 HR1 HC1
    by_cases hlt2 : k < 3
    · have hlt3 : (k : Int) < 3 := by omega
      have q0 := HQ.out.c0
      go_wp2_with fail

      have hst : ∀ F, F ∈ [FEq (.pointer (some ⟨bq, 0, none⟩)), FEq (.slice (some ⟨g, 0, none⟩) 3 3), FEq (.int .i64 (k : Int)), FEq (.pointer (some ⟨rb, 0, none⟩)), FEq (.int .i64 slow), FInt 0 1000, FBool] → Stable [rb] F := by
        simp only [List.forall_mem_cons]
        exact ⟨stEq _ _, stEq _ _, stEq _ _, stEq _ _, stEq _ _, stInt _ _ _, stBool _, fun _ h => by simp at h⟩
      refine wp_region_tail (by kernel_rfl) (fun i => ([[], [0], [], [], [], [3, 4], [3, 4, 5], [0, 1, 2, 3, 4, 5, 6], [0, 1, 2, 3, 4, 5, 6, 7]] : List (List Nat)).getD i []) (facts [FEq (.pointer (some ⟨bq, 0, none⟩)), FEq (.slice (some ⟨g, 0, none⟩) 3 3), FEq (.int .i64 (k : Int)), FEq (.pointer (some ⟨rb, 0, none⟩)), FEq (.int .i64 slow), FInt 0 1000, FBool]) (fun m w' => RdAt w' rb fq ((N + 20 * (k : Int)) + 1 * m) ∧ Chg [rb] wr w') 42 9 7 [some 13, some 14, some 15, some 16, some 17, some 18, some 19] _ rfl rfl (by decide) rfl rfl (by kernel_rfl) (by kernel_rfl) [] (by kernel_rfl) (fun g b hm v w h => by simp at hm) ?h0 (all_lt (n := 7) ?hop) ?hend
      case h0 => exact ⟨(HR.out.below (Below.refl _ _).drew).mono (by omega), (Chg.refl _ _).drewN 1⟩
      case hop =>
        refine ⟨⟨⟨⟨⟨⟨⟨trivial, ?_⟩, ?_⟩, ?_⟩, ?_⟩, ?_⟩, ?_⟩, ?_⟩
        · refine Owes.mk _ rfl rfl (fun _ _ h => by cases h) fun u m w' hm ⟨hI, hc⟩ hR => ⟨⟨#[undef, undef, undef, undef, undef, .pointer (some ⟨bq, 0, none⟩), undef, undef, undef, undef, undef, undef, undef, undef, undef, undef, undef, undef, undef, undef, undef, undef, undef, undef, undef, undef, undef, undef, undef, undef, undef, undef, undef, undef, undef, undef, undef, undef, undef, undef, undef, undef], []⟩, rfl, fun d hd => by cases hd; exact (by decide : 13 < 42), ?_⟩
          have hm : m < 9 := hm
          clear hR
          have k0 := keep_cell_chg hc q0 nbq
          clear hst
          go_wp2
          exact ⟨rfl, _, rfl, rfl, ⟨hI.mono (by omega), hc⟩, fun _ _ h => h⟩
        · refine Owes.mk _ rfl rfl (fun _ _ h => by cases h) fun u m w' hm ⟨hI, hc⟩ hR => ⟨⟨#[undef, undef, undef, undef, undef, undef, undef, undef, undef, undef, undef, undef, undef, u 0, undef, undef, undef, undef, undef, undef, undef, undef, undef, undef, undef, undef, undef, undef, undef, undef, undef, undef, undef, undef, undef, undef, undef, undef, undef, undef, undef, undef], []⟩, rfl, fun d hd => by cases hd; exact (by decide : 14 < 42), ?_⟩
          have hm : m < 9 := hm
          have ev0 : u 0 = _ := hR 0 (by decide)
          clear hR
          rw [ev0]
          have k0 := keep_cell_chg hc q0 nbq
          clear hst
          go_wp2
          exact ⟨rfl, _, rfl, rfl, ⟨hI.mono (by omega), hc⟩, fun _ _ h => h⟩
        · refine Owes.mk _ rfl rfl (fun _ _ h => by cases h) fun u m w' hm ⟨hI, hc⟩ hR => ⟨⟨#[undef, undef, undef, undef, undef, undef, .int .i64 (k : Int), undef, undef, undef, undef, undef, undef, undef, undef, undef, undef, undef, undef, undef, undef, undef, undef, undef, undef, undef, undef, undef, undef, undef, undef, undef, undef, undef, undef, undef, undef, undef, undef, undef, undef, undef], []⟩, rfl, fun d hd => by cases hd; exact (by decide : 15 < 42), ?_⟩
          have hm : m < 9 := hm
          clear hR
          go_wp2
          exact ⟨rfl, _, rfl, rfl, ⟨hI.mono (by omega), hc⟩, fun _ _ h => h⟩
        · refine Owes.mk _ rfl rfl (fun _ _ h => by cases h) fun u m w' hm ⟨hI, hc⟩ hR => ⟨⟨#[.pointer (some ⟨rb, 0, none⟩), undef, undef, undef, undef, undef, undef, undef, undef, undef, undef, undef, undef, undef, undef, undef, undef, undef, undef, undef, undef, undef, undef, undef, undef, undef, undef, undef, undef, undef, undef, undef, undef, undef, undef, undef, undef, undef, undef, undef, undef, undef], []⟩, rfl, fun d hd => by cases hd; exact (by decide : 16 < 42), ?_⟩
          have hm : m < 9 := hm
          clear hR
          go_wp2
          exact ⟨rfl, _, rfl, rfl, ⟨hI.mono (by omega), hc⟩, fun _ _ h => h⟩
        · refine Owes.mk _ rfl rfl (fun _ _ h => by cases h) fun u m w' hm ⟨hI, hc⟩ hR => ⟨⟨#[undef, .int .i64 slow, undef, undef, undef, undef, undef, undef, undef, undef, undef, undef, undef, undef, undef, undef, undef, undef, undef, undef, undef, undef, undef, undef, undef, undef, undef, undef, undef, undef, undef, undef, undef, undef, undef, undef, undef, undef, undef, undef, undef, undef], []⟩, rfl, fun d hd => by cases hd; exact (by decide : 17 < 42), ?_⟩
          have hm : m < 9 := hm
          clear hR
          go_wp2
          exact ⟨rfl, _, rfl, rfl, ⟨hI.mono (by omega), hc⟩, fun _ _ h => h⟩
        · refine Owes.mk _ rfl rfl (fun _ _ h => by cases h) fun u m w' hm ⟨hI, hc⟩ hR => ⟨⟨#[undef, undef, undef, undef, undef, undef, undef, undef, undef, undef, undef, undef, undef, undef, undef, undef, u 3, u 4, undef, undef, undef, undef, undef, undef, undef, undef, undef, undef, undef, undef, undef, undef, undef, undef, undef, undef, undef, undef, undef, undef, undef, undef], []⟩, rfl, fun d hd => by cases hd; exact (by decide : 18 < 42), ?_⟩
          have hm : m < 9 := hm
          have ev0 : u 3 = _ := hR 3 (by decide)
          have ev1 : u 4 = _ := hR 4 (by decide)
          clear hR
          rw [ev0, ev1]
          have k0 := keep_cell_chg hc q0 nbq
          go_wp2_with fail
          refine (pick_any rb fq (N + 20 * (k : Int) + 1 * m) slow (by omega) (by omega) (by omega) _ hI).mono ?_
          rintro e w2 ⟨x, rfl, lo, hi, g1, g2⟩
          have hs := facts_stable hst g2
          have G1 := Lib.hid (g1.mono (show _ ≤ N + 20 * (k : Int) + 1 * ((m + 1 : Nat) : Int) by omega))
          have G2 := Lib.hid (hc.trans' g2)
          have HS := Lib.hid hs
          clear g1 g2 hs hc hI hst
          go_wp2
          exact ⟨rfl, _, rfl, ⟨x, by omega, by omega, rfl⟩, ⟨G1.out, G2.out⟩, HS.out⟩
        · refine Owes.mk _ rfl rfl (fun _ _ h => by cases h) fun u m w' hm ⟨hI, hc⟩ hR => ⟨⟨#[undef, undef, undef, undef, undef, undef, undef, undef, undef, undef, undef, undef, undef, undef, undef, undef, undef, undef, u 5, undef, undef, undef, undef, undef, undef, undef, undef, undef, undef, undef, undef, undef, undef, undef, undef, undef, undef, undef, undef, undef, undef, undef], []⟩, rfl, fun d hd => by cases hd; exact (by decide : 19 < 42), ?_⟩
          have hm : m < 9 := hm
          have k0 := keep_cell_chg hc q0 nbq
          obtain ⟨xx, _, _, ex⟩ := hR 5 (by decide)
          rw [ex]
          clear hst
          go_wp2
          exact ⟨rfl, _, rfl, ⟨_, rfl⟩, ⟨hI.mono (by omega), hc⟩, fun _ _ h => h⟩
      case hend =>
        intro u w' ⟨hI, hc⟩ hR
        simp only [setAll, List.set_cons_zero, List.set_cons_succ]
        have e1 : u 1 = _ := hR 1 (by decide)
        have e2 : u 2 = _ := hR 2 (by decide)
        obtain ⟨bb, e6⟩ := hR 6 (by decide)
        rw [e1, e2, e6]
        have HQw := Lib.hid (InAt.chg HQ.out hc hrg hrq)
        have hi : k < y.ready.length := by rw [HQ.out.lr]; omega
        obtain ⟨cy, cw⟩ : ∃ cy, w'.cell? ⟨g, k, none⟩ = some cy := ⟨_, by simpa [BoolC] using OwnR.cell BoolC_len HQw.out.r hi (j := 0) (by simp [BoolC])⟩
        have fw : w'.frozen? ⟨g, k, none⟩ = false := OwnR.frozen HQw.out.r _
        have HQn := Lib.hid (InAt.put_ready HQw.out hbg hi bb)
        have HRn := Lib.hid (hI.chg (store_chg (g := g) (j := k) (.bool bb)) (by simp; omega) (fun b hb hb' => by have := FLG.out b hb; simp at hb'; omega))
        have HCn := Lib.hid ((HC.out.step hc (fun k hk => by simp at hk; omega)).step (store_chg (g := g) (j := k) (.bool bb)) (fun k hk => by simp at hk; omega))
        clear hR hI hc hst e1 e2 e6 HQw hi HQ HR HC
        clear q0
        go_wp2_with fail
        obtain ⟨Wn, hWn⟩ : ∃ W, W = w'.setCell ⟨g, k, none⟩ (.bool bb) := ⟨_, rfl⟩
        obtain ⟨y2, HQ2⟩ : ∃ y2, Hid (InAt bq g Wn y2) := ⟨_, by rw [hWn]; exact HQn⟩
        have HR2 : Hid (RdAt Wn rb fq (N + 20 * (k : Int) + 10)) := Lib.hid (by rw [hWn]; exact HRn.out.mono (by omega))
        have HC2 : Hid (Low rb g W0 Wn) := by rw [hWn]; exact HCn
        rw [← hWn]
        clear hWn HQn HRn HCn cw fw
        have q2 := HQ2.out.c2
        have hst : ∀ F, F ∈ [FEq (.pointer (some ⟨bq, 2, none⟩)), FEq (.slice (some ⟨g + 1 + 1, 0, none⟩) 3 3), FEq (.int .i64 (k : Int)), FEq (.pointer (some ⟨rb, 0, none⟩)), FEq (.int .i64 slow), FInt 0 1000, FBool] → Stable [rb] F := by
          simp only [List.forall_mem_cons]
          exact ⟨stEq _ _, stEq _ _, stEq _ _, stEq _ _, stEq _ _, stInt _ _ _, stBool _, fun _ h => by simp at h⟩
        refine wp_region_tail (by kernel_rfl) (fun i => ([[], [0], [], [], [], [3, 4], [3, 4, 5], [0, 1, 2, 3, 4, 5, 6], [0, 1, 2, 3, 4, 5, 6, 7]] : List (List Nat)).getD i []) (facts [FEq (.pointer (some ⟨bq, 2, none⟩)), FEq (.slice (some ⟨g + 1 + 1, 0, none⟩) 3 3), FEq (.int .i64 (k : Int)), FEq (.pointer (some ⟨rb, 0, none⟩)), FEq (.int .i64 slow), FInt 0 1000, FBool]) (fun m w' => RdAt w' rb fq ((N + 20 * (k : Int) + 10) + 1 * m) ∧ Chg [rb] Wn w') 42 9 7 [some 21, some 22, some 23, some 24, some 25, some 26, some 27] _ rfl rfl (by decide) rfl rfl (by kernel_rfl) (by kernel_rfl) [] (by kernel_rfl) (fun g b hm v w h => by simp at hm) ?h0 (all_lt (n := 7) ?hop) ?hend
        case h0 => exact ⟨(HR2.out.below (Below.refl _ _).drew).mono (by omega), (Chg.refl _ _).drewN 1⟩
        case hop =>
          refine ⟨⟨⟨⟨⟨⟨⟨trivial, ?_⟩, ?_⟩, ?_⟩, ?_⟩, ?_⟩, ?_⟩, ?_⟩
          · refine Owes.mk _ rfl rfl (fun _ _ h => by cases h) fun u m w' hm ⟨hI, hc⟩ hR => ⟨⟨#[undef, undef, undef, undef, undef, .pointer (some ⟨bq, 0, none⟩), undef, undef, undef, undef, undef, undef, undef, undef, undef, undef, undef, undef, undef, undef, undef, undef, undef, undef, undef, undef, undef, undef, undef, undef, undef, undef, undef, undef, undef, undef, undef, undef, undef, undef, undef, undef], []⟩, rfl, fun d hd => by cases hd; exact (by decide : 21 < 42), ?_⟩
            have hm : m < 9 := hm
            clear hR
            have k0 := keep_cell_chg hc q2 nbq
            clear hst
            go_wp2
            exact ⟨rfl, _, rfl, rfl, ⟨hI.mono (by omega), hc⟩, fun _ _ h => h⟩
          · refine Owes.mk _ rfl rfl (fun _ _ h => by cases h) fun u m w' hm ⟨hI, hc⟩ hR => ⟨⟨#[undef, undef, undef, undef, undef, undef, undef, undef, undef, undef, undef, undef, undef, undef, undef, undef, undef, undef, undef, undef, undef, u 0, undef, undef, undef, undef, undef, undef, undef, undef, undef, undef, undef, undef, undef, undef, undef, undef, undef, undef, undef, undef], []⟩, rfl, fun d hd => by cases hd; exact (by decide : 22 < 42), ?_⟩
            have hm : m < 9 := hm
            have ev0 : u 0 = _ := hR 0 (by decide)
            clear hR
            rw [ev0]
            have k0 := keep_cell_chg hc q2 nbq
            clear hst
            go_wp2
            exact ⟨rfl, _, rfl, rfl, ⟨hI.mono (by omega), hc⟩, fun _ _ h => h⟩
          · refine Owes.mk _ rfl rfl (fun _ _ h => by cases h) fun u m w' hm ⟨hI, hc⟩ hR => ⟨⟨#[undef, undef, undef, undef, undef, undef, .int .i64 (k : Int), undef, undef, undef, undef, undef, undef, undef, undef, undef, undef, undef, undef, undef, undef, undef, undef, undef, undef, undef, undef, undef, undef, undef, undef, undef, undef, undef, undef, undef, undef, undef, undef, undef, undef, undef], []⟩, rfl, fun d hd => by cases hd; exact (by decide : 23 < 42), ?_⟩
            have hm : m < 9 := hm
            clear hR
            go_wp2
            exact ⟨rfl, _, rfl, rfl, ⟨hI.mono (by omega), hc⟩, fun _ _ h => h⟩
          · refine Owes.mk _ rfl rfl (fun _ _ h => by cases h) fun u m w' hm ⟨hI, hc⟩ hR => ⟨⟨#[.pointer (some ⟨rb, 0, none⟩), undef, undef, undef, undef, undef, undef, undef, undef, undef, undef, undef, undef, undef, undef, undef, undef, undef, undef, undef, undef, undef, undef, undef, undef, undef, undef, undef, undef, undef, undef, undef, undef, undef, undef, undef, undef, undef, undef, undef, undef, undef], []⟩, rfl, fun d hd => by cases hd; exact (by decide : 24 < 42), ?_⟩
            have hm : m < 9 := hm
            clear hR
            go_wp2
            exact ⟨rfl, _, rfl, rfl, ⟨hI.mono (by omega), hc⟩, fun _ _ h => h⟩
          · refine Owes.mk _ rfl rfl (fun _ _ h => by cases h) fun u m w' hm ⟨hI, hc⟩ hR => ⟨⟨#[undef, .int .i64 slow, undef, undef, undef, undef, undef, undef, undef, undef, undef, undef, undef, undef, undef, undef, undef, undef, undef, undef, undef, undef, undef, undef, undef, undef, undef, undef, undef, undef, undef, undef, undef, undef, undef, undef, undef, undef, undef, undef, undef, undef], []⟩, rfl, fun d hd => by cases hd; exact (by decide : 25 < 42), ?_⟩
            have hm : m < 9 := hm
            clear hR
            go_wp2
            exact ⟨rfl, _, rfl, rfl, ⟨hI.mono (by omega), hc⟩, fun _ _ h => h⟩
          · refine Owes.mk _ rfl rfl (fun _ _ h => by cases h) fun u m w' hm ⟨hI, hc⟩ hR => ⟨⟨#[undef, undef, undef, undef, undef, undef, undef, undef, undef, undef, undef, undef, undef, undef, undef, undef, undef, undef, undef, undef, undef, undef, undef, undef, u 3, u 4, undef, undef, undef, undef, undef, undef, undef, undef, undef, undef, undef, undef, undef, undef, undef, undef], []⟩, rfl, fun d hd => by cases hd; exact (by decide : 26 < 42), ?_⟩
            have hm : m < 9 := hm
            have ev0 : u 3 = _ := hR 3 (by decide)
            have ev1 : u 4 = _ := hR 4 (by decide)
            clear hR
            rw [ev0, ev1]
            have k0 := keep_cell_chg hc q2 nbq
            go_wp2_with fail
            refine (pick_any rb fq (N + 20 * (k : Int) + 10 + 1 * m) slow (by omega) (by omega) (by omega) _ hI).mono ?_
            rintro e w2 ⟨x, rfl, lo, hi, g1, g2⟩
            have hs := facts_stable hst g2
            have G1 := Lib.hid (g1.mono (show _ ≤ N + 20 * (k : Int) + 10 + 1 * ((m + 1 : Nat) : Int) by omega))
            have G2 := Lib.hid (hc.trans' g2)
            have HS := Lib.hid hs
            clear g1 g2 hs hc hI hst
            go_wp2
            exact ⟨rfl, _, rfl, ⟨x, by omega, by omega, rfl⟩, ⟨G1.out, G2.out⟩, HS.out⟩
          · refine Owes.mk _ rfl rfl (fun _ _ h => by cases h) fun u m w' hm ⟨hI, hc⟩ hR => ⟨⟨#[undef, undef, undef, undef, undef, undef, undef, undef, undef, undef, undef, undef, undef, undef, undef, undef, undef, undef, undef, undef, undef, undef, undef, undef, undef, undef, u 5, undef, undef, undef, undef, undef, undef, undef, undef, undef, undef, undef, undef, undef, undef, undef], []⟩, rfl, fun d hd => by cases hd; exact (by decide : 27 < 42), ?_⟩
            have hm : m < 9 := hm
            have k0 := keep_cell_chg hc q2 nbq
            obtain ⟨xx, _, _, ex⟩ := hR 5 (by decide)
            rw [ex]
            clear hst
            go_wp2
            exact ⟨rfl, _, rfl, ⟨_, rfl⟩, ⟨hI.mono (by omega), hc⟩, fun _ _ h => h⟩
        case hend =>
          intro u w' ⟨hI, hc⟩ hR
          simp only [setAll, List.set_cons_zero, List.set_cons_succ]
          have e1 : u 1 = _ := hR 1 (by decide)
          have e2 : u 2 = _ := hR 2 (by decide)
          obtain ⟨bb, e6⟩ := hR 6 (by decide)
          rw [e1, e2, e6]
          have HQw := Lib.hid (InAt.chg HQ2.out hc hrg hrq)
          have hi : k < y2.send.length := by rw [HQ2.out.lt]; omega
          obtain ⟨cy, cw⟩ : ∃ cy, w'.cell? ⟨g + 1 + 1, k, none⟩ = some cy := ⟨_, by simpa [BoolC] using OwnR.cell BoolC_len HQw.out.t hi (j := 0) (by simp [BoolC])⟩
          have fw : w'.frozen? ⟨g + 1 + 1, k, none⟩ = false := OwnR.frozen HQw.out.t _
          have HQn := Lib.hid (InAt.put_send HQw.out hbg hi bb)
          have HRn := Lib.hid (hI.chg (store_chg (g := g + 1 + 1) (j := k) (.bool bb)) (by simp; omega) (fun b hb hb' => by have := FLG.out b hb; simp at hb'; omega))
          have HCn := Lib.hid ((HC2.out.step hc (fun k hk => by simp at hk; omega)).step (store_chg (g := g + 1 + 1) (j := k) (.bool bb)) (fun k hk => by simp at hk; omega))
          clear hR hI hc hst e1 e2 e6 HQw hi HQ2 HR2 HC2
          clear q2
          go_wp2
          go_roundw
          case rel => exact ⟨k + 1, _, by omega, by go_num, HQn.out, HRn.out.mono (by omega), HCn.out⟩
          case measure => simp [intOf]; omega
    · have hk3 : ¬ (k : Int) < 3 := by omega
      go_wp2_with fail
      go_loopw [7] (fun i wr => ∃ (k : Nat) (y : CycIn), k ≤ 4 ∧ i = .int .i64 k ∧ InAt bq g wr y ∧ RdAt wr rb fq (N + 70 + 10 * k) ∧ Low rb g W0 wr) (fun i _ => 4 - (intOf i).toNat)
      case atStart => exact ⟨0, _, by omega, rfl, HQ.out, HR.out.mono (by omega), HC.out⟩
      case round =>
        clear HQ HR HC
        obtain ⟨k, y, hk, rfl, hq, hrd, hch⟩ := hrel
        have HQ := Lib.hid hq
        have HR := Lib.hid hrd
        have HC := Lib.hid hch
        clear hq hrd hch
        by_cases hlt4 : k < 4
        · have hlt5 : (k : Int) ≤ 3 := by omega
          have q1 := HQ.out.c1
          go_wp2_with fail
          have hst : ∀ F, F ∈ [FEq (.pointer (some ⟨bq, 1, none⟩)), FEq (.slice (some ⟨g + 1, 0, none⟩) 4 4), FEq (.int .i64 (k : Int)), FEq (.pointer (some ⟨rb, 0, none⟩)), FEq (.int .i64 slow), FInt 0 1000, FBool] → Stable [rb] F := by
            simp only [List.forall_mem_cons]
            exact ⟨stEq _ _, stEq _ _, stEq _ _, stEq _ _, stEq _ _, stInt _ _ _, stBool _, fun _ h => by simp at h⟩
          refine wp_region_tail (by kernel_rfl) (fun i => ([[], [0], [], [], [], [3, 4], [3, 4, 5], [0, 1, 2, 3, 4, 5, 6], [0, 1, 2, 3, 4, 5, 6, 7]] : List (List Nat)).getD i []) (facts [FEq (.pointer (some ⟨bq, 1, none⟩)), FEq (.slice (some ⟨g + 1, 0, none⟩) 4 4), FEq (.int .i64 (k : Int)), FEq (.pointer (some ⟨rb, 0, none⟩)), FEq (.int .i64 slow), FInt 0 1000, FBool]) (fun m w' => RdAt w' rb fq ((N + 70 + 10 * (k : Int)) + 1 * m) ∧ Chg [rb] wr w') 42 9 7 [some 33, some 34, some 35, some 36, some 37, some 38, some 39] _ rfl rfl (by decide) rfl rfl (by kernel_rfl) (by kernel_rfl) [] (by kernel_rfl) (fun g b hm v w h => by simp at hm) ?h0 (all_lt (n := 7) ?hop) ?hend
          case h0 => exact ⟨(HR.out.below (Below.refl _ _).drew).mono (by omega), (Chg.refl _ _).drewN 1⟩
          case hop =>
            refine ⟨⟨⟨⟨⟨⟨⟨trivial, ?_⟩, ?_⟩, ?_⟩, ?_⟩, ?_⟩, ?_⟩, ?_⟩
            · refine Owes.mk _ rfl rfl (fun _ _ h => by cases h) fun u m w' hm ⟨hI, hc⟩ hR => ⟨⟨#[undef, undef, undef, undef, undef, .pointer (some ⟨bq, 0, none⟩), undef, undef, undef, undef, undef, undef, undef, undef, undef, undef, undef, undef, undef, undef, undef, undef, undef, undef, undef, undef, undef, undef, undef, undef, undef, undef, undef, undef, undef, undef, undef, undef, undef, undef, undef, undef], []⟩, rfl, fun d hd => by cases hd; exact (by decide : 33 < 42), ?_⟩
              have hm : m < 9 := hm
              clear hR
              have k0 := keep_cell_chg hc q1 nbq
              clear hst
              go_wp2
              exact ⟨rfl, _, rfl, rfl, ⟨hI.mono (by omega), hc⟩, fun _ _ h => h⟩
            · refine Owes.mk _ rfl rfl (fun _ _ h => by cases h) fun u m w' hm ⟨hI, hc⟩ hR => ⟨⟨#[undef, undef, undef, undef, undef, undef, undef, undef, undef, undef, undef, undef, undef, undef, undef, undef, undef, undef, undef, undef, undef, undef, undef, undef, undef, undef, undef, undef, undef, undef, undef, undef, undef, u 0, undef, undef, undef, undef, undef, undef, undef, undef], []⟩, rfl, fun d hd => by cases hd; exact (by decide : 34 < 42), ?_⟩
              have hm : m < 9 := hm
              have ev0 : u 0 = _ := hR 0 (by decide)
              clear hR
              rw [ev0]
              have k0 := keep_cell_chg hc q1 nbq
              clear hst
              go_wp2
              exact ⟨rfl, _, rfl, rfl, ⟨hI.mono (by omega), hc⟩, fun _ _ h => h⟩
            · refine Owes.mk _ rfl rfl (fun _ _ h => by cases h) fun u m w' hm ⟨hI, hc⟩ hR => ⟨⟨#[undef, undef, undef, undef, undef, undef, undef, .int .i64 (k : Int), undef, undef, undef, undef, undef, undef, undef, undef, undef, undef, undef, undef, undef, undef, undef, undef, undef, undef, undef, undef, undef, undef, undef, undef, undef, undef, undef, undef, undef, undef, undef, undef, undef, undef], []⟩, rfl, fun d hd => by cases hd; exact (by decide : 35 < 42), ?_⟩
              have hm : m < 9 := hm
              clear hR
              go_wp2
              exact ⟨rfl, _, rfl, rfl, ⟨hI.mono (by omega), hc⟩, fun _ _ h => h⟩
            · refine Owes.mk _ rfl rfl (fun _ _ h => by cases h) fun u m w' hm ⟨hI, hc⟩ hR => ⟨⟨#[.pointer (some ⟨rb, 0, none⟩), undef, undef, undef, undef, undef, undef, undef, undef, undef, undef, undef, undef, undef, undef, undef, undef, undef, undef, undef, undef, undef, undef, undef, undef, undef, undef, undef, undef, undef, undef, undef, undef, undef, undef, undef, undef, undef, undef, undef, undef, undef], []⟩, rfl, fun d hd => by cases hd; exact (by decide : 36 < 42), ?_⟩
              have hm : m < 9 := hm
              clear hR
              go_wp2
              exact ⟨rfl, _, rfl, rfl, ⟨hI.mono (by omega), hc⟩, fun _ _ h => h⟩
            · refine Owes.mk _ rfl rfl (fun _ _ h => by cases h) fun u m w' hm ⟨hI, hc⟩ hR => ⟨⟨#[undef, .int .i64 slow, undef, undef, undef, undef, undef, undef, undef, undef, undef, undef, undef, undef, undef, undef, undef, undef, undef, undef, undef, undef, undef, undef, undef, undef, undef, undef, undef, undef, undef, undef, undef, undef, undef, undef, undef, undef, undef, undef, undef, undef], []⟩, rfl, fun d hd => by cases hd; exact (by decide : 37 < 42), ?_⟩
              have hm : m < 9 := hm
              clear hR
              go_wp2
              exact ⟨rfl, _, rfl, rfl, ⟨hI.mono (by omega), hc⟩, fun _ _ h => h⟩
            · refine Owes.mk _ rfl rfl (fun _ _ h => by cases h) fun u m w' hm ⟨hI, hc⟩ hR => ⟨⟨#[undef, undef, undef, undef, undef, undef, undef, undef, undef, undef, undef, undef, undef, undef, undef, undef, undef, undef, undef, undef, undef, undef, undef, undef, undef, undef, undef, undef, undef, undef, undef, undef, undef, undef, undef, undef, u 3, u 4, undef, undef, undef, undef], []⟩, rfl, fun d hd => by cases hd; exact (by decide : 38 < 42), ?_⟩
              have hm : m < 9 := hm
              have ev0 : u 3 = _ := hR 3 (by decide)
              have ev1 : u 4 = _ := hR 4 (by decide)
              clear hR
              rw [ev0, ev1]
              have k0 := keep_cell_chg hc q1 nbq
              go_wp2_with fail
              refine (pick_any rb fq (N + 70 + 10 * (k : Int) + 1 * m) slow (by omega) (by omega) (by omega) _ hI).mono ?_
              rintro e w2 ⟨x, rfl, lo, hi, g1, g2⟩
              have hs := facts_stable hst g2
              have G1 := Lib.hid (g1.mono (show _ ≤ N + 70 + 10 * (k : Int) + 1 * ((m + 1 : Nat) : Int) by omega))
              have G2 := Lib.hid (hc.trans' g2)
              have HS := Lib.hid hs
              clear g1 g2 hs hc hI hst
              go_wp2
              exact ⟨rfl, _, rfl, ⟨x, by omega, by omega, rfl⟩, ⟨G1.out, G2.out⟩, HS.out⟩
            · refine Owes.mk _ rfl rfl (fun _ _ h => by cases h) fun u m w' hm ⟨hI, hc⟩ hR => ⟨⟨#[undef, undef, undef, undef, undef, undef, undef, undef, undef, undef, undef, undef, undef, undef, undef, undef, undef, undef, undef, undef, undef, undef, undef, undef, undef, undef, undef, undef, undef, undef, undef, undef, undef, undef, undef, undef, undef, undef, u 5, undef, undef, undef], []⟩, rfl, fun d hd => by cases hd; exact (by decide : 39 < 42), ?_⟩
              have hm : m < 9 := hm
              have k0 := keep_cell_chg hc q1 nbq
              obtain ⟨xx, _, _, ex⟩ := hR 5 (by decide)
              rw [ex]
              clear hst
              go_wp2
              exact ⟨rfl, _, rfl, ⟨_, rfl⟩, ⟨hI.mono (by omega), hc⟩, fun _ _ h => h⟩
          case hend =>
            intro u w' ⟨hI, hc⟩ hR
            simp only [setAll, List.set_cons_zero, List.set_cons_succ]
            have e1 : u 1 = _ := hR 1 (by decide)
            have e2 : u 2 = _ := hR 2 (by decide)
            obtain ⟨bb, e6⟩ := hR 6 (by decide)
            rw [e1, e2, e6]
            have HQw := Lib.hid (InAt.chg HQ.out hc hrg hrq)
            have hi : k < y.stall.length := by rw [HQ.out.ls]; omega
            obtain ⟨cy, cw⟩ : ∃ cy, w'.cell? ⟨g + 1, k, none⟩ = some cy := ⟨_, by simpa [BoolC] using OwnR.cell BoolC_len HQw.out.s hi (j := 0) (by simp [BoolC])⟩
            have fw : w'.frozen? ⟨g + 1, k, none⟩ = false := OwnR.frozen HQw.out.s _
            have HQn := Lib.hid (InAt.put_stall HQw.out hbg hi bb)
            have HRn := Lib.hid (hI.chg (store_chg (g := g + 1) (j := k) (.bool bb)) (by simp; omega) (fun b hb hb' => by have := FLG.out b hb; simp at hb'; omega))
            have HCn := Lib.hid ((HC.out.step hc (fun k hk => by simp at hk; omega)).step (store_chg (g := g + 1) (j := k) (.bool bb)) (fun k hk => by simp at hk; omega))
            clear hR hI hc hst e1 e2 e6 HQw hi HQ HR HC
            clear q1
            go_wp2
            go_roundw
            case rel => exact ⟨k + 1, _, by omega, by go_num, HQn.out, HRn.out.mono (by omega), HCn.out⟩
            case measure => simp [intOf]; omega
        · have hk4 : ¬ (k : Int) ≤ 3 := by omega
          have c0 := HQ.out.c0
          have c1 := HQ.out.c1
          have c2 := HQ.out.c2
          have hz' : w.heap.size < W0.heap.size := by have := HZ0.out; omega
          have nr : w.heap.size ∉ [rb] := by simp; omega
          obtain ⟨q0, m0⟩ := HR0.out 0 (by omega)
          obtain ⟨q1, m1⟩ := HR0.out 1 (by omega)
          obtain ⟨q2, m2⟩ := HR0.out 2 (by omega)
          replace m0 := keep_cell_chg HC.out.chg m0 nr
          replace m1 := keep_cell_chg HC.out.chg m1 nr
          replace m2 := keep_cell_chg HC.out.chg m2 nr
          have f0 := (World.frozen?_of_block (HC.out.chg.block w.heap.size hz' nr)).trans (HF0.out 0)
          have f1 := (World.frozen?_of_block (HC.out.chg.block w.heap.size hz' nr)).trans (HF0.out 1)
          have f2 := (World.frozen?_of_block (HC.out.chg.block w.heap.size hz' nr)).trans (HF0.out 2)
          go_wp2
          have hc3 := chg3 w.heap.size wr (.slice (some ⟨g, 0, none⟩) 3 3) (.slice (some ⟨g + 1, 0, none⟩) 4 4) (.slice (some ⟨g + 1 + 1, 0, none⟩) 3 3)
          refine bodyPost_ret (v := .agg #[.slice (some ⟨g, 0, none⟩) 3 3, .slice (some ⟨g + 1, 0, none⟩) 4 4, .slice (some ⟨g + 1 + 1, 0, none⟩) 3 3]) (by simp [results, Try.results115, go_sem, put3_0 _ _ _ m0, put3_1 _ _ _ m1, put3_2 _ _ _ m2]) rfl ?_
          exact ⟨g, rfl, by omega, y, OwnR.chg HQ.out.r hc3 (by omega), OwnR.chg HQ.out.s hc3 (by omega), OwnR.chg HQ.out.t hc3 (by omega), HQ.out.lr, HQ.out.ls, HQ.out.lt, (HR.out.chg hc3 (by simp; omega) (fun b hb hb' => by have := FL.out b hb; simp at hb'; omega)).mono (by omega), (((B0.out.chg [rb]).trans' HC.out.chg).trans hc3).drop (fun b hb hlt' => by simp at hb ⊢; omega)⟩

end Go.Proofs.Ytmmojgopeaelcaa