/-
  What one was told: copyJobs; the program's ToldOf.
-/
import Derived.Test.YtmcjklicepaiaaaQTold2
namespace Go.Proofs.Ytmcjklicepaiaaa
set_option linter.unusedVariables false
set_option linter.unusedSimpArgs false
open Go.RowKit Go.ChangeShapes Go.WideShapes

/-- the first k rows of a copy hold what is the copy's own; the others what the list holds -/
def CopyAt (L : List (Tr Job 5)) (v : Value) (fp1 : List Nat) (B : Nat) (wr : World) (k : Nat) : Prop :=
  ∃ M : List (Tr Job 5), M.length = k ∧ M.map (·.1) = (L.take k).map (·.1) ∧ SlR 5 (flatR trC) wr (M ++ L.drop k) v fp1 ∧ Free fp1 wr ∧ (∀ b, b ∈ fp1 → b < B) ∧ B ≤ wr.heap.size ∧
    (∀ p, p ∈ M → jobR wr p.1 p.2.1.1 p.2.2) ∧ (∀ b, b ∈ (M.map (·.2.2)).flatten → B ≤ b) ∧ (M.map (·.2.2)).flatten.Nodup ∧ Free (M.map (·.2.2)).flatten wr

theorem CopyAt.at {L : List (Tr Job 5)} {v : Value} {fp1 : List Nat} {B : Nat} {wr : World} {k : Nat} (h : CopyAt L v fp1 B wr k) (hk : k < L.length) :
    ∃ b off n cap, v = .slice (some ⟨b, off, none⟩) n cap ∧ b ∈ fp1 ∧ b < wr.heap.size ∧ ∀ j (hj : j < (trC L[k]).length), wr.cell? ⟨b, off + k * 5 + j, none⟩ = some (trC L[k])[j] := by
  obtain ⟨M, h1, h2, h3, h4, h5, h6, h7, h8, h9, h10⟩ := h
  obtain ⟨a, n, cap, rfl, hn, hcap, hmax, hcm, r⟩ := h3.openF
  have hl : (M ++ L.drop k).length = L.length := by simp; omega
  obtain ⟨i1, b, off, rfl, hb, hbf, hc⟩ := r k (by rw [← hn.out, hl]; exact hk)
  refine ⟨b, off, n, cap, rfl, hbf, hb, fun j hj => ?_⟩
  have e : (M ++ L.drop k)[k] = L[k] := by
    rw [List.getElem_append_right (by omega)]
    simp [h1]
  have := hc j (by rw [e]; exact hj)
  simpa [e] using this

theorem CopyAt.step {L : List (Tr Job 5)} {v : Value} {fp1 : List Nat} {B : Nat} {wr w2 : World} {k b off n cap : Nat} (h : CopyAt L v fp1 B wr k) (hk : k < L.length) (hv : v = .slice (some ⟨b, off, none⟩) n cap) (hb : Below wr.heap.size wr w2) {dv d0 : Value} {f : List Nat}
    (hd : SlR 1 intR w2 L[k].1.rsp.data dv f) (hn : New f wr w2) (hc : trC L[k] = [.int .i64 L[k].1.who, .int .i64 L[k].1.n, .int .i64 L[k].1.rsp.id, .int .i64 L[k].1.rsp.code, d0]) :
    CopyAt L v fp1 B (w2.setCell ⟨b, off + k * 5 + 4, none⟩ dv) (k + 1) := by
  obtain ⟨M, h1, h2, h3, h4, h5, h6, h7, h8, h9, h10⟩ := h
  subst hv
  let p : Tr Job 5 := (L[k].1, ⟨[.int .i64 L[k].1.who, .int .i64 L[k].1.n, .int .i64 L[k].1.rsp.id, .int .i64 L[k].1.rsp.code, dv], rfl⟩, f)
  have hlt : k < (M ++ L.drop k).length := by simp; omega
  have e : (M ++ L.drop k)[k] = L[k] := by
    rw [List.getElem_append_right (by omega)]
    simp [h1]
  have eset : (M ++ L.drop k).set k p = (M ++ [p]) ++ L.drop (k + 1) := by
    rw [List.set_append_right _ _ (by omega), h1, Nat.sub_self, List.drop_eq_getElem_cons hk, List.set_cons_zero, List.append_assoc]
    rfl
  obtain ⟨q1, q2, q3⟩ := SlR.put1 trC_len (SlR.below (flatR_fits trC_len) h3 hb) rfl hlt (j := 4) (by decide) dv p (by rw [e, hc]; rfl)
  rw [eset] at q1
  have hbB : b < B := h5 b q3
  have hfl : ∀ c, c ∈ f → c < w2.heap.size := hd.lt intR_fits
  have hfB : ∀ c, c ∈ f → c ∉ [b] := fun c hc hm => by have := hn.lo c hc; simp at hm; omega
  have hMw : ∀ c, c ∈ (M.map (·.2.2)).flatten → c < wr.heap.size := fun c hc => by
    obtain ⟨g, hg, hcg⟩ := List.mem_flatten.1 hc
    obtain ⟨q, hq, rfl⟩ := List.mem_map.1 hg
    exact jobR_fits.lt (h7 q hq) c hcg
  have hMb : ∀ c, c ∈ (M.map (·.2.2)).flatten → c ∉ [b] := fun c hc hm => by have := h8 c hc; simp at hm; omega
  have hsz : wr.heap.size ≤ (w2.setCell ⟨b, off + k * 5 + 4, none⟩ dv).heap.size := by simp; exact hb.size
  have emap : ((M ++ [p]).map (·.2.2)).flatten = (M.map (·.2.2)).flatten ++ f := by simp [p]
  refine ⟨M ++ [p], by simp [h1], by rw [List.map_append, h2, List.take_succ_eq_append_getElem hk, List.map_append]; rfl, q1, ?_, h5, Nat.le_trans h6 hsz, ?_, ?_, ?_, ?_⟩
  · exact (h4.below (fun c hc => Nat.lt_of_lt_of_le (h5 c hc) h6) hb).setCell _ _
  · intro q hq
    rcases List.mem_append.1 hq with hq | hq
    · have hR := jobR_fits.below (h7 q hq) hb
      exact jobR_fits.chg hR q2 fun c hc => hMb c (List.mem_flatten.2 ⟨_, List.mem_map.2 ⟨q, hq, rfl⟩, hc⟩)
    · obtain rfl : q = p := by simpa using hq
      exact ⟨dv, f, rfl, rfl, hd.chg intR_fits q2 hfB⟩
  · intro c hc
    rw [emap] at hc
    rcases List.mem_append.1 hc with hc | hc
    · exact h8 c hc
    · have := hn.lo c hc; omega
  · rw [emap]
    exact nodup_app h9 hn.once fun c hc hc' => by have := hMw c hc; have := hn.lo c hc'; omega
  · rw [emap]
    exact ((h10.below hMw hb).setCell _ _).app (hn.free.setCell _ _)

theorem CopyAt.done {L : List (Tr Job 5)} {v : Value} {fp1 : List Nat} {B : Nat} {w w1 wr : World} {k : Nat} (h : CopyAt L v fp1 B wr k) (hk : k = L.length) (h1 : New fp1 w w1) (hB : w.heap.size ≤ B) : ∃ fp', SlR 5 jobR wr (L.map (·.1)) v fp' ∧ New fp' w wr := by
  subst hk
  obtain ⟨M, e1, e2, h3, h4, h5, h6, h7, h8, h9, h10⟩ := h
  rw [List.drop_of_length_le (Nat.le_refl _), List.append_nil] at h3
  rw [List.take_of_length_le (Nat.le_refl _)] at e2
  have := SlR.untr h3 h7
  rw [e2] at this
  refine ⟨_, this, ⟨fun b hb => ?_, nodup_app h1.once h9 fun b hb hb' => ?_, h4.app h10⟩⟩
  · rcases List.mem_append.1 hb with hb | hb
    · exact h1.lo b hb
    · have := h8 b hb; omega
  · have := h5 b hb; have := h8 b hb'; omega

set_option maxRecDepth 100000 in
set_option maxHeartbeats 3200000 in
theorem copyJobs_any (v : Value) (L : List (Tr Job 5)) (fq : List Nat) (hs : L.length ≤ 1048576) (hd : ∀ p, p ∈ L → p.1.rsp.data.length ≤ 1048576) (w : World) (g : SlR 5 (flatR trC) w L v fq) (hE : ∀ p, p ∈ L → jobR w p.1 p.2.1.1 p.2.2) :
    Calls Try.prog 79 #[v] w fun e w' => ∃ v' fp', e = .returned v' ∧ SlR 5 jobR w' (L.map (·.1)) v' fp' ∧ New fp' w w' ∧ Below w.heap.size w w' := by
  obtain ⟨a0, n0, cap0, rfl, _⟩ := g.openF
  have G := Lib.hid g
  have HS := Lib.hid hs
  have HD := Lib.hid hd
  have HE := Lib.hid hE
  clear g hs hd hE
  go_enter Try.func79, Try.ntmps79
  go_wp2_with fail
  refine (cloneJ trC trC_len _ L fq HS.out _ G.out).mono ?_
  rintro e w1 ⟨v', fp1, rfl, g1, n1, b1⟩
  obtain ⟨a, n, cap, rfl, hn, hcap, hmax, hcm, _⟩ := g1.openF
  have C0 : Hid (CopyAt L (.slice a n cap) fp1 w1.heap.size w1 0) := Lib.hid ⟨[], rfl, by simp, by simpa using g1, n1.free, g1.lt (flatR_fits trC_len), Nat.le_refl _, fun p hp => by simp at hp, by simp, by simp, fun b hb => by simp at hb⟩
  have N1 := Lib.hid n1
  have B1 := Lib.hid b1
  clear g1 n1 b1
  go_wp2_with fail
  go_loopw [10] (fun i wr => ∃ k : Nat, k ≤ n ∧ i = .int .i64 k ∧ CopyAt L (.slice a n cap) fp1 w1.heap.size wr k ∧ Below w.heap.size w wr) (fun i _ => n - (intOf i).toNat)
  case atStart => exact ⟨0, Nat.zero_le _, rfl, C0.out, B1.out⟩
  case round =>
    obtain ⟨k, hk, rfl, hc, hb⟩ := hrel
    have HC := Lib.hid hc
    have HB := Lib.hid hb
    by_cases hlt : k < n
    · have i1 : k < L.length := by rw [hn.out]; exact hlt
      obtain ⟨b1, o1, n', cap', e0, hbf, hbl, e1⟩ := hc.at i1
      simp only [Value.slice.injEq] at e0
      obtain ⟨rfl, rfl, rfl⟩ := e0
      have hR := HE.out L[k] (List.getElem_mem i1)
      obtain ⟨da, dn, dc, hcs, hdd⟩ := jobR_els hR
      have hcs' : trC L[k] = [.int .i64 L[k].1.who, .int .i64 L[k].1.n, .int .i64 L[k].1.rsp.id, .int .i64 L[k].1.rsp.code, .slice da dn dc] := hcs
      have c0 := e1 0 (by rw [hcs']; simp)
      have c1 := e1 1 (by rw [hcs']; simp)
      have c2 := e1 2 (by rw [hcs']; simp)
      have c3 := e1 3 (by rw [hcs']; simp)
      have c4 := e1 4 (by rw [hcs']; simp)
      simp only [hcs', Nat.add_zero, List.getElem_cons_zero, List.getElem_cons_succ] at c0 c1 c2 c3 c4
      have GG := Lib.hid (SlR.alloc intR_fits (SlR.below intR_fits hdd hb) (.cells #[.int .i64 L[k].1.who, .int .i64 L[k].1.n, .int .i64 L[k].1.rsp.id, .int .i64 L[k].1.rsp.code, .slice da dn dc] 64))
      have BA := Lib.hid (below_alloc wr (.cells #[.int .i64 L[k].1.who, .int .i64 L[k].1.n, .int .i64 L[k].1.rsp.id, .int .i64 L[k].1.rsp.code, .slice da dn dc] 64))
      have SD : Hid (L[k].1.rsp.data.length ≤ 1048576) := Lib.hid (HD.out _ (List.getElem_mem i1))
      have HCS := Lib.hid hcs'
      have HF : Hid (wr.frozen? ⟨b1, o1 + k * 5 + 4, none⟩ = false) := Lib.hid (by
        obtain ⟨M, _, _, _, h4, _⟩ := hc
        exact h4 b1 hbf _)
      have HBF := Lib.hid hbf
      clear hc hb e1 hR hcs hcs' hdd
      go_wp2_with fail
      refine (cloneI IntC IntC_len _ L[k].1.rsp.data _ SD.out _ GG.out).mono ?_
      rintro e w2 ⟨v2, f2, rfl, g2, n2, b2⟩
      obtain ⟨a2, m2, k2, rfl, _⟩ := g2.openF
      have b3 := BA.out.trans (b2.mono BA.out.size)
      have n3 : New f2 wr w2 := ⟨fun b hb => Nat.le_trans BA.out.size (n2.lo b hb), n2.once, n2.free⟩
      have d4 := keep_cell b3 c4
      have z4 := keep_free b3 hbl HF.out
      have HST := Lib.hid (HC.out.step i1 rfl b3 g2 n3 HCS.out)
      have HB2 := Lib.hid (HB.out.trans (b3.mono HB.out.size))
      have HLO : Hid (w.heap.size ≤ b1) := Lib.hid (N1.out.lo b1 HBF.out)
      clear b2 b3 n2 n3 g2 c0 c1 c2 c3 c4
      go_wp2
      go_roundw
      case rel => exact ⟨k + 1, by omega, by go_num, HST.out, HB2.out.setCell (p := ⟨b1, o1 + k * 5 + 4, none⟩) HLO.out _⟩
      case measure => simp [intOf]; omega
    · clear hc hb
      obtain rfl : k = n := by omega
      go_wp2
      go_ret
      obtain ⟨fp', q1, q2⟩ := HC.out.done hn.out.symm N1.out B1.out.size
      exact ⟨_, fp', rfl, q1, q2, HB.out⟩

end Go.Proofs.Ytmcjklicepaiaaa
