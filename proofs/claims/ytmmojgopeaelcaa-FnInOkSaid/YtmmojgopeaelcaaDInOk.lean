/-
  What DrawInOk draws: what comes from outside.
-/
import Derived.Test.YtmmojgopeaelcaaProg
import Derived.Test.YtmmojgopeaelcaaBase
import Derived.Test.YtmmojgopeaelcaaDIn
import Derived.Test.YtmmojgopeaelcaaDMem
namespace Go.Proofs.Ytmmojgopeaelcaa
set_option linter.unusedVariables false
set_option linter.unusedSimpArgs false
open Go.RowKit Go.ChangeShapes Go.WideShapes

theorem own_ne {a b n c m d : Nat} (h : a ≠ b) : (Value.slice (some ⟨a, 0, none⟩) n c).ownBlock ≠ (Value.slice (some ⟨b, 0, none⟩) m d).ownBlock := fun q => h (by simpa [Value.ownBlock] using q)

theorem infoBool1 : (Try.prog.info? 4).map (fun i => (i.zero, i.size, i.bytes)) = some (some (.bool false), 1, 1) := by kernel_rfl

set_option maxRecDepth 100000 in
set_option maxHeartbeats 3200000 in
theorem drawInOk_any (v : Value) (l : List Int) (fp : List Nat) (w : World) (g0 : ByteS w l v fp) :
    Calls Try.prog 50 #[v] w fun e w' => ∃ (x : CycIn) (v0 v1 v2 : Value) (f0 f1 f2 : List Nat), e = .returned (.agg #[v0, v1, v2]) ∧ SlR 1 boolR w' x.ready v0 f0 ∧ SlR 1 boolR w' x.stall v1 f1 ∧ SlR 1 boolR w' x.send v2 f2 ∧ x.ready.length ≤ 5 ∧ x.stall.length ≤ 5 ∧ x.send.length ≤ 5 ∧ Below w.heap.size w w' := by
  obtain ⟨i0, ki, kz0, kz1, kz2⟩ := info_parts infoBool1
  have hb := below_alloc w (.cells #[.slice none 0 0, .slice none 0 0, .slice none 0 0] 86)
  have G := Lib.hid (SlR.below byteR_fits g0 hb)
  have B := Lib.hid hb
  clear g0 hb
  go_enter Try.func50, Try.ntmps50
  go_wp2_with fail
  refine (l20Open_any v l fp _ G.out).mono ?_
  rintro e w1 ⟨rb, fq, rfl, hrb, hfq, h0, b0⟩
  have HR0 : Hid (∀ j, j < 3 → ∃ u, w1.cell? ⟨w.heap.size, j, none⟩ = some u) := Lib.hid (fun j hj => ⟨_, keep_cell b0 (alloc1_new w _ _ j (by simp [hj]; rfl))⟩)
  have HF0 : Hid (∀ j, w1.frozen? ⟨w.heap.size, j, none⟩ = false) := Lib.hid (fun j => keep_free b0 (by simp) (alloc1_free w _ _ j))
  have H0 := Lib.hid h0
  have B0 := Lib.hid (B.out.trans (b0.mono B.out.size))
  have hrb' : w.heap.size < rb := by simp at hrb; omega
  have hz1 : w.heap.size < w1.heap.size := by have := b0.size; simp at this; omega
  have nr : w.heap.size ∉ [rb] := by simp; omega
  have fl : ∀ b, b ∈ fq → b < w1.heap.size := fun b hb => by have := hfq b hb; have := b0.size; omega
  have hrl := h0.lt
  have FL := Lib.hid fl
  clear h0 b0 fl
  go_wp2_with fail
  refine (l20In_any rb fq 0 3 (by omega) (by omega) (by omega) _ H0.out FL.out).mono ?_
  rintro e w2 ⟨g, x, rfl, hg, r1, r2, r3, l1, l2, l3, h2, c2⟩
  have hg2 : g + 1 + 1 < w2.heap.size := (bown_lt r3 (g := g + 1 + 1) rfl).2
  obtain ⟨bq, hbq⟩ : ∃ b, b = w2.heap.size := ⟨_, rfl⟩
  obtain ⟨W3, hW3⟩ : ∃ W, W = w2.alloc (.cells #[.slice (some ⟨g, 0, none⟩) 3 3, .slice (some ⟨g + 1, 0, none⟩) 4 4, .slice (some ⟨g + 1 + 1, 0, none⟩) 3 3] 86) := ⟨_, rfl⟩
  have ba : Below w2.heap.size w2 W3 := by rw [hW3]; exact below_alloc _ _
  have hq : InAt bq g W3 x := by
    rw [hbq]
    exact ⟨by rw [hW3]; exact alloc1_new w2 _ _ 0 rfl, by rw [hW3]; exact alloc1_new w2 _ _ 1 rfl, by rw [hW3]; exact alloc1_new w2 _ _ 2 rfl, fun j => by rw [hW3]; exact World.frozen?_alloc_at _ _ _ _ rfl, OwnR.below r1 ba, OwnR.below r2 ba, OwnR.below r3 ba, l1, l2, l3⟩
  have hrg : rb < g := by omega
  have hbg : g + 1 + 1 < bq := by omega
  have hrq : rb ≠ bq := by omega
  have HQ1 := Lib.hid hq
  have HR1 := Lib.hid (h2.below ba)
  have HC1 := Lib.hid (show Low rb g w1 W3 from ⟨hg, c2.trans' (ba.chg [rb])⟩)
  have hflg : ∀ b, b ∈ fq → b < g := fun b hb => by have := FL.out b hb; omega
  have FLG := Lib.hid hflg
  clear hq r1 r2 r3 l1 l2 l3 h2 c2 ba hflg H0
  go_wp2_with fail
  rw [← hW3, ← hbq]
  clear hW3 hbq hg2
  refine (pick_any rb fq (0 + 200) 5 (by omega) (by omega) (by omega) _ HR1.out).mono ?_
  rintro e w4 ⟨x5, rfl, lo5, hi5, h1, h2⟩
  have HQ4 := Lib.hid (InAt.chg HQ1.out h2 hrg hrq)
  have HC4 := Lib.hid (Low.step HC1.out h2 (fun k hk => by simp at hk; omega))
  clear h1 h2 HQ1 HR1 HC1
  go_upto_block 0 with fail
  go_cut [] (fun wc => ∃ (x : CycIn) (v0 v1 v2 : Value) (f0 f1 f2 : List Nat), wc.cell? ⟨bq, 0, none⟩ = some v0 ∧ wc.cell? ⟨bq, 1, none⟩ = some v1 ∧ wc.cell? ⟨bq, 2, none⟩ = some v2 ∧ SlR 1 boolR wc x.ready v0 f0 ∧ SlR 1 boolR wc x.stall v1 f1 ∧ SlR 1 boolR wc x.send v2 f2 ∧ x.ready.length ≤ 5 ∧ x.stall.length ≤ 5 ∧ x.send.length ≤ 5 ∧ (∀ b, b ∈ f0 ++ f1 ++ f2 → w.heap.size < b) ∧ Low rb g w1 wc)
  case first =>
    have lr := HQ4.out.lr
    have ls := HQ4.out.ls
    have lt := HQ4.out.lt
    obtain ⟨f0, s0, hf0, _⟩ := OwnR.readsB BoolC_len HQ4.out.r
    obtain ⟨f1, s1, hf1, _⟩ := OwnR.readsB BoolC_len HQ4.out.s
    obtain ⟨f2, s2, hf2, _⟩ := OwnR.readsB BoolC_len HQ4.out.t
    have hf0' : ∀ b, b ∈ f0 → b = g := fun b hb => by have := hf0 b hb; simp [Value.ownBlock] at this; omega
    have hf1' : ∀ b, b ∈ f1 → b = g + 1 := fun b hb => by have := hf1 b hb; simp [Value.ownBlock] at this; omega
    have hf2' : ∀ b, b ∈ f2 → b = g + 1 + 1 := fun b hb => by have := hf2 b hb; simp [Value.ownBlock] at this; omega
    have S0 : Hid (SlR 1 boolR w4 x.ready (.slice (some ⟨g, 0, none⟩) 3 3) f0) := Lib.hid s0
    have S1 : Hid (SlR 1 boolR w4 x.stall (.slice (some ⟨g + 1, 0, none⟩) 4 4) f1) := Lib.hid s1
    have S2 : Hid (SlR 1 boolR w4 x.send (.slice (some ⟨g + 1 + 1, 0, none⟩) 3 3) f2) := Lib.hid s2
    have F0 := Lib.hid hf0'
    have F1 := Lib.hid hf1'
    have F2 := Lib.hid hf2'
    have LR := Lib.hid lr
    have LS := Lib.hid ls
    have LT := Lib.hid lt
    have HALL : Hid (∀ b, b ∈ f0 ++ f1 ++ f2 → w.heap.size < b ∧ b ≠ bq) := Lib.hid (fun b hb => by
      simp only [List.mem_append] at hb
      rcases hb with (hb | hb) | hb
      · have := hf0' b hb; omega
      · have := hf1' b hb; omega
      · have := hf2' b hb; omega)
    clear s0 s1 s2 hf0 hf1 hf2 hf0' hf1' hf2' lr ls lt
    have q0 := HQ4.out.c0
    have q1 := HQ4.out.c1
    have q2 := HQ4.out.c2
    have z0 := HQ4.out.fz 0
    have z1 := HQ4.out.fz 1
    have z2 := HQ4.out.fz 2
    have hx : x5 = 0 ∨ x5 = 1 ∨ x5 = 2 ∨ (x5 ≠ 0 ∧ x5 ≠ 1 ∧ x5 ≠ 2) := by omega
    rcases hx with rfl | rfl | rfl | ⟨n0, n1, n2⟩
    · obtain ⟨fd, sd, hfd⟩ := S0.out.drop 1 (by decide)
      have SD := Lib.hid sd
      have FD := Lib.hid hfd
      clear sd hfd
      go_wp2_with fail
      go_meet
      case rel => exact ⟨⟨x.ready.drop 1, x.stall, x.send⟩, _, _, _, fd, f1, f2, setSame _ q0, setOther _ (by decide) q1, setOther _ (by decide) q2, SD.out.chg boolR_fits (store_chg _) (fun b hb hb' => by have := (HALL.out b (by simp [FD.out b hb])).2; simp at hb'; omega), S1.out.chg boolR_fits (store_chg _) (fun b hb hb' => by have := (HALL.out b (by simp [hb])).2; simp at hb'; omega), S2.out.chg boolR_fits (store_chg _) (fun b hb hb' => by have := (HALL.out b (by simp [hb])).2; simp at hb'; omega), by rw [List.length_drop, LR.out]; decide, by rw [LS.out]; decide, by rw [LT.out]; decide, fun b hb => (by simp only [List.mem_append] at hb; rcases hb with (hb | hb) | hb <;> exact (HALL.out b (by simp only [List.mem_append]; first | exact .inl (.inl (by first | exact hb | exact FD.out b hb)) | exact .inl (.inr (by first | exact hb | exact FD.out b hb)) | exact .inr hb)).1), HC4.out.step (store_chg _) (fun k hk => by simp at hk; omega)⟩
    · obtain ⟨fd, sd, hfd⟩ := S1.out.drop 1 (by decide)
      have SD := Lib.hid sd
      have FD := Lib.hid hfd
      clear sd hfd
      go_wp2_with fail
      go_meet
      case rel => exact ⟨⟨x.ready, x.stall.drop 1, x.send⟩, _, _, _, f0, fd, f2, setOther _ (by decide) q0, setSame _ q1, setOther _ (by decide) q2, S0.out.chg boolR_fits (store_chg _) (fun b hb hb' => by have := (HALL.out b (by simp [hb])).2; simp at hb'; omega), SD.out.chg boolR_fits (store_chg _) (fun b hb hb' => by have := (HALL.out b (by simp [FD.out b hb])).2; simp at hb'; omega), S2.out.chg boolR_fits (store_chg _) (fun b hb hb' => by have := (HALL.out b (by simp [hb])).2; simp at hb'; omega), by rw [LR.out]; decide, by rw [List.length_drop, LS.out]; decide, by rw [LT.out]; decide, fun b hb => (by simp only [List.mem_append] at hb; rcases hb with (hb | hb) | hb <;> exact (HALL.out b (by simp only [List.mem_append]; first | exact .inl (.inl (by first | exact hb | exact FD.out b hb)) | exact .inl (.inr (by first | exact hb | exact FD.out b hb)) | exact .inr hb)).1), HC4.out.step (store_chg _) (fun k hk => by simp at hk; omega)⟩
    · have hws : bq < w4.heap.size := block_of_cell q0
      have hgw5 : g ≤ w4.heap.size := by omega
      have HQa := Lib.hid (InAt.below HQ4.out (below_alloc w4 (.cells #[.bool true] 4)))
      have HO5a := Lib.hid HQa.out.t
      have hga : g ≤ (w4.alloc (.cells #[.bool true] 4)).heap.size := by simp; omega
      have hnews : ∀ (j : Nat) (u : Value), (([true] : List Bool).flatMap BoolC)[j]? = some u → (w4.alloc (.cells #[.bool true] 4)).cell? ((⟨w4.heap.size, 0, none⟩ : Addr).add j) = some u := fun j u hj => by
        have hj0 : j = 0 := by have := (List.getElem?_eq_some_iff.1 hj).1; simpa [BoolC] using this
        subst hj0
        simp [BoolC] at hj
        subst hj
        exact alloc1_new _ _ _ 0 rfl
      have hneb : some bq ≠ (Value.slice (some ⟨g + 1 + 1, 0, none⟩) 3 3).ownBlock := by simp [Value.ownBlock]; omega
      have HYL : Hid (x.send.length ≤ 2000000) := Lib.hid (by rw [LT.out]; decide)
      go_wp2_with (at_builtin; go_loud (refine wpList_appendB (K := 1) (c := BoolC) (l := x.send) (news := [true]) (base := g) rfl _ _ 84 4 i0 (.bool false) 1 BoolC_len rfl Try.underlying84 ki kz0 kz1 kz2 rfl (by decide) (by decide) rfl rfl HO5a.out rfl (by decide) hnews (by simp [BoolC, Value.oneCell']) HYL.out (by decide) hga ?_); intro v' w6 hown' hg' hbl; go_loud (obtain ⟨va, vn, vc, rfl, _⟩ := OwnR.slice hown'); go_loud (have c6 := hg'.cell (alloc_keep q2 _) hneb); go_loud (have f6 := (World.frozen?_of_block (hg'.block bq (by simp; omega) hneb)).trans (HQa.out.fz 2)); go_loud (have C60 := hg'.cell (alloc_keep q0 _) hneb); go_loud (have C61 := hg'.cell (alloc_keep q1 _) hneb); have HR6 := Lib.hid hown'; go_loud (have HRR := Lib.hid (World.ownsRow.kept HQa.out.r hg' (.inr (own_ne (by omega))))); go_loud (have HSS := Lib.hid (World.ownsRow.kept HQa.out.s hg' (.inr (own_ne (by omega))))); go_loud (have HB6 := Lib.hid (grown_below HO5a.out hg' hga)); have HBL : Hid ((Value.slice va vn vc).ownBlock = (Value.slice (some ⟨g + 1 + 1, 0, none⟩) 3 3).ownBlock ∨ (Value.slice va vn vc).ownBlock = some (w4.alloc (.cells #[.bool true] 4)).heap.size) := Lib.hid hbl; clear hown' hg' hbl)
      go_meet
      case rel =>
        have hb6 : Below g w4 w6 := Below.trans ((below_alloc w4 _).mono hgw5) HB6.out
        obtain ⟨e0, t0, he0, _⟩ := OwnR.readsB BoolC_len (show BoolRow g w6 _ x.ready from HRR.out)
        obtain ⟨e1, t1, he1, _⟩ := OwnR.readsB BoolC_len (show BoolRow g w6 _ x.stall from HSS.out)
        obtain ⟨e2, t2, he2, _⟩ := OwnR.readsB BoolC_len HR6.out
        have n0 : ∀ b, b ∈ e0 → w.heap.size < b ∧ b ≠ bq := fun b hb => by have := he0 b hb; simp [Value.ownBlock] at this; omega
        have n1 : ∀ b, b ∈ e1 → w.heap.size < b ∧ b ≠ bq := fun b hb => by have := he1 b hb; simp [Value.ownBlock] at this; omega
        have n2 : ∀ b, b ∈ e2 → w.heap.size < b ∧ b ≠ bq := fun b hb => by
          have h1 := he2 b hb
          rcases HBL.out with h2 | h2
          · rw [h1] at h2
            have h3 : b = g + 1 + 1 := by simpa [Value.ownBlock] using h2
            omega
          · rw [h1] at h2
            have h3 : b = w4.heap.size + 1 := by simpa using h2
            omega
        exact ⟨⟨x.ready, x.stall, x.send ++ [true]⟩, _, _, _, e0, e1, e2, setOther _ (by decide) C60, setOther _ (by decide) C61, setSame _ c6, SlR.chg boolR_fits t0 (store_chg _) (fun b hb hb' => by have := (n0 b hb).2; simp at hb'; omega), SlR.chg boolR_fits t1 (store_chg _) (fun b hb hb' => by have := (n1 b hb).2; simp at hb'; omega), SlR.chg boolR_fits t2 (store_chg _) (fun b hb hb' => by have := (n2 b hb).2; simp at hb'; omega), by rw [LR.out]; decide, by rw [LS.out]; decide, by rw [List.length_append, LT.out]; decide,
          fun b hb => (by simp only [List.mem_append] at hb; rcases hb with (hb | hb) | hb; exact (n0 b hb).1; exact (n1 b hb).1; exact (n2 b hb).1), (HC4.out.below hb6).step (store_chg _) (fun k hk => by simp at hk; omega)⟩
    · go_wp2_with fail
      go_meet
      case rel => exact ⟨x, _, _, _, f0, f1, f2, q0, q1, q2, S0.out, S1.out, S2.out, by rw [LR.out]; decide, by rw [LS.out]; decide, by rw [LT.out]; decide, fun b hb => (HALL.out b hb).1, HC4.out⟩
  case rest =>
    obtain ⟨x, v0, v1, v2, f0, f1, f2, q0, q1, q2, s0, s1, s2, l0, l1, l2, hf, hch⟩ := hcut
    obtain ⟨a0, n0, k0, rfl⟩ := s0.form
    obtain ⟨a1, n1, k1, rfl⟩ := s1.form
    obtain ⟨a2, n2, k2, rfl⟩ := s2.form
    obtain ⟨p0, m0⟩ := HR0.out 0 (by omega)
    obtain ⟨p1, m1⟩ := HR0.out 1 (by omega)
    obtain ⟨p2, m2⟩ := HR0.out 2 (by omega)
    replace m0 := keep_cell_chg hch.chg m0 nr
    replace m1 := keep_cell_chg hch.chg m1 nr
    replace m2 := keep_cell_chg hch.chg m2 nr
    have g0 := (World.frozen?_of_block (hch.chg.block w.heap.size hz1 nr)).trans (HF0.out 0)
    have g1 := (World.frozen?_of_block (hch.chg.block w.heap.size hz1 nr)).trans (HF0.out 1)
    have g2 := (World.frozen?_of_block (hch.chg.block w.heap.size hz1 nr)).trans (HF0.out 2)
    have S0 := Lib.hid s0
    have S1 := Lib.hid s1
    have S2 := Lib.hid s2
    have L0 := Lib.hid l0
    have L1 := Lib.hid l1
    have L2 := Lib.hid l2
    have HF := Lib.hid hf
    have HB := Lib.hid (((B0.out.chg [rb]).trans' hch.chg).home (fun b hb => by simp at hb; omega))
    clear s0 s1 s2 l0 l1 l2 hf hch HQ4 HC4
    go_wp2
    have hc3 := chg3 w.heap.size wc (.slice a0 n0 k0) (.slice a1 n1 k1) (.slice a2 n2 k2)
    refine bodyPost_ret (v := .agg #[.slice a0 n0 k0, .slice a1 n1 k1, .slice a2 n2 k2]) (by simp [results, Try.results50, go_sem, put3_0 _ _ _ m0, put3_1 _ _ _ m1, put3_2 _ _ _ m2]) rfl ?_
    exact ⟨x, _, _, _, f0, f1, f2, rfl, S0.out.chg boolR_fits hc3 (fun b hb hb' => by have := HF.out b (by simp [hb]); simp at hb'; omega), S1.out.chg boolR_fits hc3 (fun b hb hb' => by have := HF.out b (by simp [hb]); simp at hb'; omega), S2.out.chg boolR_fits hc3 (fun b hb hb' => by have := HF.out b (by simp [hb]); simp at hb'; omega), L0.out, L1.out, L2.out, ((HB.out.chg []).trans hc3).home (fun b hb => by simp at hb; omega)⟩

end Go.Proofs.Ytmmojgopeaelcaa